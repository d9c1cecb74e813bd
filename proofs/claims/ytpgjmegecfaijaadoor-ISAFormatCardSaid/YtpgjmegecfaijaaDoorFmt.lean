/-
  isa.Format: the text of an instruction.
-/
import Derived.Test.YtpgjmegecfaijaaDoorDecd
import Derived.OwnWalk
import Derived.Outline
import Derived.Deep.RegionHeld3
import Derived.Lib.ItoaLen
import Derived.Laws.OwnMore
namespace Go.Proofs.YtpgjmegecfaijaaDoor
open Go.RowKit

theorem info9 : (Tryd.prog.info? 9).map (fun i => (i.zero, i.size, i.bytes)) = some (some (.string ⟨#[]⟩), 1, 16) := by kernel_rfl
/-- the text of an operand -/
def opT (a b c m o : Int) : ByteArray := if o = 3 then ⟨(Lib.itoa m).toArray⟩ else ⟨#[114]⟩ ++ ⟨(Lib.itoa (fieldOf a b c m o)).toArray⟩
def opTs (op a b c m : Int) : List ByteArray := (shp op.toNat).map (opT a b c m)
theorem owns_below {base : Nat} {e : TypeId} {size : Nat} {v : Value} {n : Nat} {xs : List Value} {w w1 : World} (h : w.ownsRow base e size v n xs) (hb : Below w.heap.size w w1) : w1.ownsRow base e size v n xs := by
  obtain ⟨hl, h | ⟨g, cap, cur, hv, hg, hh, h1, h2, h3, h4⟩⟩ := h
  · exact ⟨hl, .inl h⟩
  · have hlt : g < w.heap.size := (Array.getElem?_eq_some_iff.1 hh).1
    exact ⟨hl, .inr ⟨g, cap, cur, hv, hg, (hb.block g hlt).trans hh, h1, h2, h3, h4⟩⟩
def fmtJ (op a b c m : Int) : ByteArray := ⟨(Lib.join ((opTs op a b c m).map (·.data.toList)) [44, 32]).toArray⟩
def fmtS (op a b c m : Int) : ByteArray := if (shp op.toNat).length = 0 then nam op.toNat else nam op.toNat ++ ⟨#[32]⟩ ++ fmtJ op a b c m
set_option linter.unusedSimpArgs false in
theorem join_len (op a b c m : Int) (h : ∀ s ∈ opTs op a b c m, s.size ≤ 22) : (fmtJ op a b c m).size ≤ 100 := by
  have hl : (opTs op a b c m).length ≤ 3 := by unfold opTs; simpa using shp_len op.toNat
  unfold fmtJ
  generalize opTs op a b c m = l at *
  match l, hl with
  | [], _ => simp [Lib.join, List.intercalate, ByteArray.size]
  | [x], _ =>
    have h1 := h x (by simp)
    simp only [ByteArray.size] at h1
    simp only [List.map_cons, List.map_nil, Lib.join_cons, Lib.joinTail, List.flatten_cons, List.flatten_nil, ByteArray.size, List.size_toArray, List.length_append, List.length_cons, List.length_nil, Array.length_toList]
    omega
  | [x, y], _ =>
    have h1 := h x (by simp)
    have h2 := h y (by simp)
    simp only [ByteArray.size] at h1 h2
    simp only [List.map_cons, List.map_nil, Lib.join_cons, Lib.joinTail, List.flatten_cons, List.flatten_nil, ByteArray.size, List.size_toArray, List.length_append, List.length_cons, List.length_nil, Array.length_toList]
    omega
  | [x, y, z], _ =>
    have h1 := h x (by simp)
    have h2 := h y (by simp)
    have h3 := h z (by simp)
    simp only [ByteArray.size] at h1 h2 h3
    simp only [List.map_cons, List.map_nil, Lib.join_cons, Lib.joinTail, List.flatten_cons, List.flatten_nil, ByteArray.size, List.size_toArray, List.length_append, List.length_cons, List.length_nil, Array.length_toList]
    omega
structure FE (dB g : Nat) (nm : ByteArray) (xs : List ByteArray) (wr w' : World) : Prop where
  below : Below wr.heap.size wr w'
  nm : w'.cell? ⟨dB, 0, none⟩ = some (.string nm)
  glt : g < w'.heap.size
  dlt : dB < w'.heap.size
  xs : ∀ (j : Nat) x, xs[j]? = some x → w'.cell? ⟨g, 0 + j, none⟩ = some (.string x)
theorem FE.next {dB g : Nat} {nm : ByteArray} {xs : List ByteArray} {wr w w1 : World} (h : FE dB g nm xs wr w) (hb : Below w.heap.size w w1) : FE dB g nm xs wr w1 :=
  ⟨bt h.below hb, ((bcell hb).1 dB 0 h.dlt).trans h.nm, Nat.lt_of_lt_of_le h.glt hb.size, Nat.lt_of_lt_of_le h.dlt hb.size, fun j x hx => ((bcell hb).1 g _ h.glt).trans (h.xs j x hx)⟩
theorem nam_len : ∀ n, (nam n).size ≤ 6 := by intro n; unfold nam; split <;> decide
theorem sum_le1 {x : ByteArray} (h : x.size ≤ 6) : x.size + (⟨#[32]⟩ : ByteArray).size ≤ 9223372036854775807 := by
  have : (⟨#[32]⟩ : ByteArray).size = 1 := rfl
  omega
theorem sum_le2 {x y : ByteArray} (h : x.size ≤ 6) (h2 : y.size ≤ 100) : (x ++ ⟨#[32]⟩).size + y.size ≤ 9223372036854775807 := by
  have : (⟨#[32]⟩ : ByteArray).size = 1 := rfl
  rw [ByteArray.size_append]
  omega
theorem opTs_len (op a b c m : Int) : (opTs op a b c m).length = (shp op.toNat).length := by unfold opTs; simp
theorem opT_size {op a b c m : Int} (hm : -32768 ≤ m ∧ m ≤ 32767) (ha : 0 ≤ a ∧ a < 8) (hb : 0 ≤ b ∧ b < 8) (hc : 0 ≤ c ∧ c < 8) : ∀ s ∈ opTs op a b c m, s.size ≤ 22 := by
  intro s hs
  unfold opTs at hs
  obtain ⟨o, ho, rfl⟩ := List.mem_map.1 hs
  have h1 := Lib.itoa_length_le m (by omega) (by omega)
  have h2 := Lib.itoa_length_le a (by omega) (by omega)
  have h3 := Lib.itoa_length_le b (by omega) (by omega)
  have h4 := Lib.itoa_length_le c (by omega) (by omega)
  rcases shp_in _ _ ho with rfl | rfl | rfl | rfl <;> simp [opT, fieldOf, ByteArray.size] <;> omega
theorem joins_c (op a b c m : Int) (hs : ∀ s ∈ opTs op a b c m, s.size ≤ 22) (g n cap : Nat) (hn : n = (shp op.toNat).length) (hcap : n ≤ cap) (w : World) (hx : ∀ (j : Nat) x, (opTs op a b c m)[j]? = some x → w.cell? ⟨g, 0 + j, none⟩ = some (.string x)) (hg : g < w.heap.size) :
    Calls Tryd.prog 52 #[.slice (some ⟨g, 0, none⟩) n cap, .string ⟨#[44, 32]⟩] w fun e w' => e = .returned (.string (fmtJ op a b c m)) ∧ Below w.heap.size w w' := by
  have hl := opTs_len op a b c m
  have h3 := shp_len op.toNat
  have hj := join_len op a b c m hs
  subst hn
  rw [← hl] at hcap ⊢
  exact Tryd.strings_Join g 0 cap (opTs op a b c m) ⟨#[44, 32]⟩ w hx hg (by omega) hcap (by simpa [fmtJ, ByteArray.size] using Nat.le_trans hj (by decide))
set_option maxRecDepth 100000 in
set_option maxHeartbeats 2000000 in
theorem fmt_c (op a b c m : Int) (hm : -32768 ≤ m ∧ m ≤ 32767) (hv : vld op a b c m = true) (w : World) (hr : TabR w) : Calls Tryd.prog 31 #[code op a b c m] w fun e w' => e = .returned (.string (fmtS op a b c m)) ∧ Below w.heap.size w w' := by
  have HV := Lib.hid hv
  obtain ⟨⟨o0, o1⟩, ⟨a0, a1⟩, ⟨b0, b1⟩, c0, c1⟩ := vld_bounds hv
  clear hv
  obtain ⟨i9, hi9, hz0, hz1, hz2⟩ := info_parts info9
  go_enter Tryd.func31, Tryd.ntmps31
  go_wp2_with fail
  have C0 := Cod.new (w := w) op a b c m 24
  refine (valid_c op a b c m hm _).mono ?_
  rintro e w1 ⟨rfl, hb1⟩
  rw [HV.out]
  replace C0 := C0.next hb1
  have k1 : Below w.heap.size w w1 := bt (ba w _) hb1
  clear hb1
  obtain ⟨lt, c0', c1', c2', c3', c4', f0, f1, f2, f3, f4⟩ := id C0
  go_wp2_with fail
  refine (describe_any op _).mono ?_
  rintro e w2 ⟨sa, rfl, L, hb2⟩
  clear lt c0' c1' c2' c3' c4' f0 f1 f2 f3 f4
  replace C0 := C0.next hb2
  have k2 := bt k1 hb2
  clear hb2
  rw [decide_eq_true (And.intro o0 o1)]
  go_wp2_with fail
  have D0 : (w2.alloc (.cells #[.string (nam op.toNat), .slice sa (shp op.toNat).length (shp op.toNat).length] 46)).cell? ⟨w2.heap.size, 0, none⟩ = some (.string (nam op.toNat)) := (World.cell?_alloc_at _ _ _ _ rfl).trans rfl
  have hd : w2.heap.size < (w2.alloc (.cells #[.string (nam op.toNat), .slice sa (shp op.toNat).length (shp op.toNat).length] 46)).heap.size := by simp
  have k4 := bt k2 (ba w2 (.cells #[.string (nam op.toNat), .slice sa (shp op.toNat).length (shp op.toNat).length] 46))
  replace C0 := C0.next (ba w2 (.cells #[.string (nam op.toNat), .slice sa (shp op.toNat).length (shp op.toNat).length] 46))
  replace L := L.next (ba w2 (.cells #[.string (nam op.toNat), .slice sa (shp op.toNat).length (shp op.toNat).length] 46))
  generalize hdb : w2.heap.size = dB at *
  generalize (w2.alloc (.cells #[.string (nam op.toNat), .slice sa (shp op.toNat).length (shp op.toNat).length] 46)) = w4 at *
  have L3 := shp_len op.toNat
  have hl3 : ((shp op.toNat).length : Int) ≤ 3 := by omega
  have HR := Lib.hid hr
  have HC := Lib.hid C0
  have HL := Lib.hid L.at_
  have HD := Lib.hid D0
  clear C0 L D0 hr k2 k1 hdb
  go_loopw [5, 21] (fun v i wr => ∃ k : Nat, k ≤ (shp op.toNat).length ∧ i = .int .i64 k ∧ Below w4.heap.size w4 wr ∧ wr.ownsRow w4.heap.size 9 1 v k (((opTs op a b c m).take k).map Value.string)) (fun _ i _ => (shp op.toNat).length - (intOf i).toNat)
  case atStart => exact ⟨0, by omega, rfl, Below.refl _ _, World.ownsRow_nil _ _ _ _⟩
  case round =>
    obtain ⟨k, hk, rfl, hbr, hown⟩ := hrel
    have HB := Lib.hid hbr
    have HO := Lib.hid hown
    by_cases hlt : k < (shp op.toNat).length
    · obtain ⟨sb, rfl, hsb, hcell0⟩ := HL.out k _ (List.getElem?_eq_getElem hlt)
      have hcell := ((bcell hbr).1 sb k hsb).trans hcell0
      have hin := shp_in op.toNat _ (List.getElem_mem hlt)
      obtain ⟨lt, c0', c1', c2', c3', c4', f0, f1, f2, f3, f4⟩ := HC.out.next hbr
      clear hbr hown hcell0
      have hfb : ∀ o, (o = 0 ∨ o = 1 ∨ o = 2 ∨ o = 3) → -32768 ≤ fieldOf a b c m o ∧ fieldOf a b c m o ≤ 32767 := by
        intro o ho
        rcases ho with rfl | rfl | rfl | rfl <;> simp [fieldOf] <;> omega
      have hgo := hfb _ hin
      have hgt : (opTs op a b c m)[k]? = some (opT a b c m (shp op.toNat)[k]) := by unfold opTs; rw [List.getElem?_map, List.getElem?_eq_getElem hlt]; rfl
      have HGT := Lib.hid hgt
      clear hfb hgt
      generalize hx : (shp op.toNat)[k] = x at *
      have HX := Lib.hid hx
      clear hx
      go_wp2_with fail
      refine (get_c op a b c m x hm hin _).mono ?_
      rintro e w5 ⟨rfl, hb5⟩
      have kb5 := bt HB.out hb5
      go_wp2_with fail
      refine (itoa_c (fieldOf a b c m x) (by omega) (by omega) _ (HR.out.below (bt k4 kb5))).mono ?_
      rintro e w6 ⟨rfl, hb6⟩
      have kb6 := bt kb5 hb6
      have hown := owns_below HO.out (bt hb5 hb6)
      have hsz6 : w4.heap.size ≤ w6.heap.size := kb6.size
      have la : (Lib.itoa (fieldOf a b c m x)).length ≤ 21 := Lib.itoa_length_le _ (by omega) (by omega)
      have r1 := fun W => run_string_add_sum (P := Tryd.prog) W ⟨#[114]⟩ ⟨(Lib.itoa (fieldOf a b c m x)).toArray⟩ (by simp [ByteArray.size]; omega)
      have R1 := Lib.hid r1
      clear r1
      have hkk : (k : Int) < 3 := by omega
      by_cases h3 : x = 3
      · have HX3 := Lib.hid h3
        have hw : opT a b c m x = ⟨(Lib.itoa (fieldOf a b c m x)).toArray⟩ := by rw [h3]; rfl
        have HW := Lib.hid hw
        clear hw
        go_wp2_with (at_builtin; refine wpList_append_own _ rfl (.tmp 33) (.tmp 35) 65 rfl w4.heap.size 9 i9 (.string ⟨#[]⟩) 1 16 Tryd.underlying65 hi9 hz0 hz1 hz2 rfl (by decide) _ _ _ rfl (hown.alloc _) ⟨w6.heap.size, 0, none⟩ 1 1 [_] rfl rfl (cell_one_new _ _ _) (by intro u hu; simp at hu; subst hu; rfl) (by unfold maxLen; omega) (by omega) (by simp; omega) ?_; intro v1 w7 hown1 hgrow1 hnil1)
        go_roundw
        case rel =>
          refine ⟨k + 1, by omega, by go_num, ?_, ?_⟩
          · exact (kb6.alloc (by omega) _).grown hgrow1 (by simp; omega) (fun j hj => (hown.lt j hj).1)
          · have hk2 : k < (opTs op a b c m).length := by unfold opTs; simpa using hlt
            have hg2 : (opTs op a b c m)[k] = opT a b c m x := by have := HGT.out; rw [List.getElem?_eq_getElem hk2] at this; simpa using this
            rw [List.take_succ_eq_append_getElem hk2, hg2, HW.out, List.map_append, HX3.out]
            exact hown1
        case measure => simp [intOf]; omega
      · have HX3 := Lib.hid h3
        have hw : opT a b c m x = ⟨#[114]⟩ ++ ⟨(Lib.itoa (fieldOf a b c m x)).toArray⟩ := by unfold opT; rw [if_neg h3]
        have HW := Lib.hid hw
        clear hw
        have r1 := R1.out
        go_wp2_with (at_builtin; refine wpList_append_own _ rfl (.tmp 33) (.tmp 35) 65 rfl w4.heap.size 9 i9 (.string ⟨#[]⟩) 1 16 Tryd.underlying65 hi9 hz0 hz1 hz2 rfl (by decide) _ _ _ rfl (hown.alloc _) ⟨w6.heap.size, 0, none⟩ 1 1 [_] rfl rfl (cell_one_new _ _ _) (by intro u hu; simp at hu; subst hu; rfl) (by unfold maxLen; omega) (by omega) (by simp; omega) ?_; intro v1 w7 hown1 hgrow1 hnil1)
        go_roundw
        case rel =>
          refine ⟨k + 1, by omega, by go_num, ?_, ?_⟩
          · exact (kb6.alloc (by omega) _).grown hgrow1 (by simp; omega) (fun j hj => (hown.lt j hj).1)
          · have hk2 : k < (opTs op a b c m).length := by unfold opTs; simpa using hlt
            have hg2 : (opTs op a b c m)[k] = opT a b c m x := by have := HGT.out; rw [List.getElem?_eq_getElem hk2] at this; simpa using this
            rw [List.take_succ_eq_append_getElem hk2, hg2, HW.out, List.map_append]
            exact hown1
        case measure => simp [intOf]; omega
    · obtain rfl : k = (shp op.toNat).length := by omega
      have hD := HD.out
      replace hD := ((bcell hbr).1 dB 0 hd).trans hD
      have hoT : (opTs op a b c m).take (shp op.toNat).length = opTs op a b c m := List.take_of_length_le (by unfold opTs; simp)
      rw [hoT] at hown
      have hlo := opTs_len op a b c m
      obtain ⟨hl, ⟨rfl, hn⟩ | ⟨g, cap, cur, rfl, hg, hh, h1, h2, h3, h4⟩⟩ := hown
      · have HZ := Lib.hid hn
        clear hn hoT hl hlo
        have kz := bt k4 hbr
        go_wp2_with fail
        all_goals first | (go_ret; exact ⟨ret_str (by unfold fmtS; rw [if_pos HZ.out]), kz⟩) | (trace_state; sorry)
      · have kz := bt k4 hbr
        clear hoT hl
        have hglt : g < wr.heap.size := (Array.getElem?_eq_some_iff.1 hh).1
        by_cases hz : (shp op.toNat).length = 0
        · have HZ := Lib.hid hz
          have hz0 : (((shp op.toNat).length : Int) == 0) = true := by simp [hz]
          clear hz hlo
          go_wp2_with fail
          go_ret
          exact ⟨ret_str (by unfold fmtS; rw [if_pos HZ.out]), kz⟩
        · have hz0 : (((shp op.toNat).length : Int) == 0) = false := by rw [beq_eq_false_iff_ne]; omega
          have K : FE dB g (nam op.toNat) (opTs op a b c m) wr wr := by
            refine ⟨Below.refl _ _, hD, hglt, Nat.lt_of_lt_of_le hd hbr.size, fun j x hx => ?_⟩
            have hj : j < (opTs op a b c m).length := (List.getElem?_eq_some_iff.1 hx).1
            rw [hlo] at hj
            have e1 : (cur.toList.take ((shp op.toNat).length * 1))[j]? = some (Value.string x) := by rw [h4, List.getElem?_map, hx]; rfl
            rw [List.getElem?_take_of_lt (by omega)] at e1
            rw [cell_of_row wr g (0 + j) cur 9 (0, 0) hh]
            simpa using e1
          have HZ := Lib.hid hz
          have hs22 := opT_size (op := op) hm ⟨a0, a1⟩ ⟨b0, b1⟩ ⟨c0, c1⟩
          have hj100 := join_len op a b c m hs22
          have hn6 := nam_len op.toNat
          have HS := Lib.hid hs22
          have sum1 := fun W => run_string_add_sum (P := Tryd.prog) W (nam op.toNat) ⟨#[32]⟩ (sum_le1 hn6)
          have sum2 := fun W => run_string_add_sum (P := Tryd.prog) W (nam op.toNat ++ ⟨#[32]⟩) (fmtJ op a b c m) (sum_le2 hn6 hj100)
          have K1 := K.next wr.drewB
          clear hz hlo hD h2 h3 h4 hh hbr HB HO HD HL HC HR hm hs22 hj100 hn6
          go_wp2_with fail
          go_region_held3 (fun w' => w'.cell? ⟨dB, 0, none⟩ = some (.string (nam op.toNat)) ∧ FE dB g (nam op.toNat) (opTs op a b c m) wr w') (first | exact ⟨K1.nm, K1⟩ | exact ⟨K.nm, K⟩ | go_keep)
            (first | (go_at_call 52; refine (joins_c op a b c m HS.out g _ cap rfl h1 _ K1.xs K1.glt).mono ?_; rintro e w5 ⟨rfl, hb5⟩; replace K1 := K1.next hb5))
          all_goals go_wp2_with fail
          all_goals go_ret
          all_goals exact ⟨ret_str (by unfold fmtS; rw [if_neg HZ.out]), bt kz K1.below⟩
end Go.Proofs.YtpgjmegecfaijaaDoor
