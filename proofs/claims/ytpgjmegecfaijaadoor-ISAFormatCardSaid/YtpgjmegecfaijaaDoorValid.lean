/-
  isa.Valid: which instructions are valid.
-/
import Derived.Test.YtpgjmegecfaijaaDoorCod
namespace Go.Proofs.YtpgjmegecfaijaaDoor
open Go.RowKit

@[go_sem] theorem eq24 (op a b c m op2 a2 b2 c2 m2 : Int) (w : World) : (Op.equalIn 10000 24 (code op a b c m) (code op2 a2 b2 c2 m2)).run Tryd.prog w = .ok (op == op2 && (a == a2 && (b == b2 && (c == c2 && m == m2)))) w := by
  have u3 := Tryd.underlying3
  have a3 := Tryd.isAgg3
  have z3 := Tryd.sizeOf3
  have u22 := Tryd.underlying22
  have a22 := Tryd.isAgg22
  have z22 := Tryd.sizeOf22
  have hS : Tryd.prog.underlying 24 = some (.struct (Tryd.prog.fieldsOf 24)) := by kernel_rfl
  have hp : Tryd.prog.stoodInHeld 24 = false := by kernel_rfl
  rw [show (10000 : Nat) = 9999 + 1 from rfl, run_equalIn_agg w 9999 24 _ _ hS hp]
  simp only [Program.fieldsOf, Tryd.underlying24]
  go_simp
  by_cases h1 : op = op2 <;> by_cases h2 : a = a2 <;> by_cases h3 : b = b2 <;> by_cases h4 : c = c2 <;> by_cases h5 : m = m2 <;> simp [h1, h2, h3, h4, h5]

def fits (op a b c m o : Int) : Bool := if o = 3 then immOk op m else decide (0 ≤ fieldOf a b c m o ∧ fieldOf a b c m o < 8)
def kept (l : List Int) (o x : Int) : Int := if o ∈ l then x else 0
def vld (op a b c m : Int) : Bool := decide (1 ≤ op ∧ op ≤ 30) && ((shp op.toNat).all (fits op a b c m) && (kept (shp op.toNat) 0 a == a && (kept (shp op.toNat) 1 b == b && (kept (shp op.toNat) 2 c == c && kept (shp op.toNat) 3 m == m))))

theorem vld_out {op a b c m : Int} (h : op < 1 ∨ 30 < op) : vld op a b c m = false := by unfold vld; simp; omega
theorem vld_no {op a b c m : Int} {k : Nat} (hk : k < (shp op.toNat).length) (h : fits op a b c m (shp op.toNat)[k] = false) : vld op a b c m = false := by
  have : (shp op.toNat).all (fits op a b c m) = false := by rw [List.all_eq_false]; exact ⟨_, List.getElem_mem hk, by simp [h]⟩
  unfold vld; rw [this]; simp
theorem all_take {α : Type} {p : α → Bool} {l : List α} {k : Nat} (hk : k < l.length) (h : (l.take k).all p = true) (h1 : p l[k] = true) : (l.take (k + 1)).all p = true := by
  rw [List.take_succ_eq_append_getElem hk, List.all_append, h]; simp [h1]
theorem kept_take {l : List Int} {k : Nat} (hk : k < l.length) (o x : Int) : kept (l.take (k + 1)) o x = if l[k] = o then x else kept (l.take k) o x := by
  unfold kept
  rw [List.take_succ_eq_append_getElem hk]
  simp only [List.mem_append, List.mem_singleton]
  by_cases h : l[k] = o
  · simp [h]
  · have h3 : ¬o = l[k] := fun e => h e.symm
    by_cases h2 : o ∈ l.take k <;> simp only [h, h2, h3, or_false, if_true, if_false]

/-- the state of Valid's loop -/
structure VIn (w0 : World) (bc bo : Nat) (sa : Option Addr) (op a b c m : Int) (k : Nat) (wr : World) : Prop where
  below : Below w0.heap.size w0 wr
  lst : Lst wr sa (shp op.toNat)
  arg : Cod bc op a b c m wr
  own : Cod bo op (kept ((shp op.toNat).take k) 0 a) (kept ((shp op.toNat).take k) 1 b) (kept ((shp op.toNat).take k) 2 c) (kept ((shp op.toNat).take k) 3 m) wr
  ok : ((shp op.toNat).take k).all (fits op a b c m) = true
  lb : ∀ b, sa = some ⟨b, 0, none⟩ → shp op.toNat ≠ [] → b < bo
theorem Lst.bound {w : World} {sa : Option Addr} {l : List Int} (h : Lst w sa l) : ∀ b, sa = some ⟨b, 0, none⟩ → l ≠ [] → b < w.heap.size := by
  intro b hb hl
  obtain ⟨x, hx⟩ : ∃ x, l[0]? = some x := by cases l with | nil => exact absurd rfl hl | cons x l => exact ⟨x, rfl⟩
  obtain ⟨b2, e, hlt, -⟩ := h.at_ 0 x hx
  rw [hb] at e
  simp at e
  omega

theorem setW_below {B : Nat} {o n : Int} {w w0 : World} {b0 : Nat} (h : Below b0 w0 w) (hB : b0 ≤ B) : Below b0 w0 (setW B o n w) := by
  unfold setW
  repeat' split
  all_goals exact Below.setCell h hB _

theorem Cod.written {B : Nat} {op a b c m o : Int} {w : World} (h : Cod B op a b c m w) (n : Int) (ho : o = 0 ∨ o = 1 ∨ o = 2 ∨ o = 3) : Cod B op (if o = 0 then n else a) (if o = 1 then n else b) (if o = 2 then n else c) (if o = 3 then IntKind.i16.wrap n else m) (setW B o n w) := by
  obtain ⟨lt, c0, c1, c2, c3, c4, f0, f1, f2, f3, f4⟩ := h
  have same : ∀ (i : Nat) (v u : Value), w.cell? ⟨B, i, none⟩ = some u → (w.setCell ⟨B, i, none⟩ v).cell? ⟨B, i, none⟩ = some v := fun i v u hu => World.cell?_setCell_same _ _ _ hu
  have oth : ∀ (i j : Nat) (v : Value), i ≠ j → (w.setCell ⟨B, i, none⟩ v).cell? ⟨B, j, none⟩ = w.cell? ⟨B, j, none⟩ := fun i j v hij => World.cell?_setCell_other _ _ _ _ (by intro e; simp at e <;> omega)
  rcases ho with rfl | rfl | rfl | rfl
  · exact ⟨by simpa [Go.Proofs.YtpgjmegecfaijaaDoor.setW] using lt, (oth 1 0 _ (by decide)).trans c0, same 1 _ _ c1, (oth 1 2 _ (by decide)).trans c2, (oth 1 3 _ (by decide)).trans c3, (oth 1 4 _ (by decide)).trans c4, by simpa [Go.Proofs.YtpgjmegecfaijaaDoor.setW] using f0, by simpa [Go.Proofs.YtpgjmegecfaijaaDoor.setW] using f1, by simpa [Go.Proofs.YtpgjmegecfaijaaDoor.setW] using f2, by simpa [Go.Proofs.YtpgjmegecfaijaaDoor.setW] using f3, by simpa [Go.Proofs.YtpgjmegecfaijaaDoor.setW] using f4⟩
  · exact ⟨by simpa [Go.Proofs.YtpgjmegecfaijaaDoor.setW] using lt, (oth 2 0 _ (by decide)).trans c0, (oth 2 1 _ (by decide)).trans c1, same 2 _ _ c2, (oth 2 3 _ (by decide)).trans c3, (oth 2 4 _ (by decide)).trans c4, by simpa [Go.Proofs.YtpgjmegecfaijaaDoor.setW] using f0, by simpa [Go.Proofs.YtpgjmegecfaijaaDoor.setW] using f1, by simpa [Go.Proofs.YtpgjmegecfaijaaDoor.setW] using f2, by simpa [Go.Proofs.YtpgjmegecfaijaaDoor.setW] using f3, by simpa [Go.Proofs.YtpgjmegecfaijaaDoor.setW] using f4⟩
  · exact ⟨by simpa [Go.Proofs.YtpgjmegecfaijaaDoor.setW] using lt, (oth 3 0 _ (by decide)).trans c0, (oth 3 1 _ (by decide)).trans c1, (oth 3 2 _ (by decide)).trans c2, same 3 _ _ c3, (oth 3 4 _ (by decide)).trans c4, by simpa [Go.Proofs.YtpgjmegecfaijaaDoor.setW] using f0, by simpa [Go.Proofs.YtpgjmegecfaijaaDoor.setW] using f1, by simpa [Go.Proofs.YtpgjmegecfaijaaDoor.setW] using f2, by simpa [Go.Proofs.YtpgjmegecfaijaaDoor.setW] using f3, by simpa [Go.Proofs.YtpgjmegecfaijaaDoor.setW] using f4⟩
  · exact ⟨by simpa [Go.Proofs.YtpgjmegecfaijaaDoor.setW] using lt, (oth 4 0 _ (by decide)).trans c0, (oth 4 1 _ (by decide)).trans c1, (oth 4 2 _ (by decide)).trans c2, (oth 4 3 _ (by decide)).trans c3, same 4 _ _ c4, by simpa [Go.Proofs.YtpgjmegecfaijaaDoor.setW] using f0, by simpa [Go.Proofs.YtpgjmegecfaijaaDoor.setW] using f1, by simpa [Go.Proofs.YtpgjmegecfaijaaDoor.setW] using f2, by simpa [Go.Proofs.YtpgjmegecfaijaaDoor.setW] using f3, by simpa [Go.Proofs.YtpgjmegecfaijaaDoor.setW] using f4⟩
theorem setW_cell {B b2 o2 : Nat} {o n : Int} {w : World} (h : b2 ≠ B) : (setW B o n w).cell? ⟨b2, o2, none⟩ = w.cell? ⟨b2, o2, none⟩ := by
  unfold Go.Proofs.YtpgjmegecfaijaaDoor.setW
  repeat' split
  all_goals exact World.cell?_setCell_other _ _ _ _ (by intro e; simp at e <;> omega)
theorem setW_size (B : Nat) (o n : Int) (w : World) : (setW B o n w).heap.size = w.heap.size := by
  unfold Go.Proofs.YtpgjmegecfaijaaDoor.setW
  repeat' split
  all_goals simp
theorem Cod.offW {B B2 : Nat} {op a b c m : Int} {w : World} (h : Cod B op a b c m w) (o n : Int) (hn : B2 ≠ B) : Cod B op a b c m (setW B2 o n w) := by
  unfold Go.Proofs.YtpgjmegecfaijaaDoor.setW
  repeat' split
  all_goals exact h.off _ _ _ hn
theorem VIn.step {w0 : World} {bc bo : Nat} {sa : Option Addr} {op a b c m : Int} {k : Nat} {wr w2 : World} (V : VIn w0 bc bo sa op a b c m k wr) (hlt : k < (shp op.toNat).length) (hf : fits op a b c m (shp op.toNat)[k] = true) (hm : -32768 ≤ m ∧ m ≤ 32767)
    (hb : Below wr.heap.size wr w2) (h0 : w0.heap.size ≤ bo) (hne : bo ≠ bc) : VIn w0 bc bo sa op a b c m (k + 1) (setW bo (shp op.toNat)[k] (fieldOf a b c m (shp op.toNat)[k]) w2) := by
  have hnil : shp op.toNat ≠ [] := by intro e; simp [e] at hlt
  refine ⟨setW_below (bt V.below hb) h0, ⟨fun j x hj => ?_⟩, (V.arg.next hb).offW _ _ hne, ?_, all_take hlt V.ok hf, V.lb⟩
  · obtain ⟨b, e, h1, h2⟩ := (V.lst.next hb).at_ j x hj
    exact ⟨b, e, by rw [setW_size]; exact h1, by rw [setW_cell (Nat.ne_of_lt (V.lb b e hnil))]; exact h2⟩
  · rw [kept_take hlt, kept_take hlt, kept_take hlt, kept_take hlt]
    have hin := shp_in op.toNat _ (List.getElem_mem hlt)
    have C := (V.own.next hb).written (fieldOf a b c m (shp op.toNat)[k]) hin
    generalize (shp op.toNat)[k] = x at *
    have hw : IntKind.i16.wrap m = m := by rw [wrap_i16]; omega
    rcases hin with rfl | rfl | rfl | rfl <;> simpa [fieldOf, hw] using C

theorem get_0 (op a b c m : Int) (hm : -32768 ≤ m ∧ m ≤ 32767) (w : World) : Calls Tryd.prog 36 #[code op a b c m, .int .i64 0] w fun e w' => e = .returned (.int .i64 a) ∧ Below w.heap.size w w' := by simpa [fieldOf] using get_c op a b c m 0 hm (by simp) w
theorem get_1 (op a b c m : Int) (hm : -32768 ≤ m ∧ m ≤ 32767) (w : World) : Calls Tryd.prog 36 #[code op a b c m, .int .i64 1] w fun e w' => e = .returned (.int .i64 b) ∧ Below w.heap.size w w' := by simpa [fieldOf] using get_c op a b c m 1 hm (by simp) w
theorem get_2 (op a b c m : Int) (hm : -32768 ≤ m ∧ m ≤ 32767) (w : World) : Calls Tryd.prog 36 #[code op a b c m, .int .i64 2] w fun e w' => e = .returned (.int .i64 c) ∧ Below w.heap.size w w' := by simpa [fieldOf] using get_c op a b c m 2 hm (by simp) w
theorem get_3 (op a b c m : Int) (hm : -32768 ≤ m ∧ m ≤ 32767) (w : World) : Calls Tryd.prog 36 #[code op a b c m, .int .i64 3] w fun e w' => e = .returned (.int .i64 m) ∧ Below w.heap.size w w' := by simpa [fieldOf] using get_c op a b c m 3 hm (by simp) w

theorem valid_c (op a b c m : Int) (hm : -32768 ≤ m ∧ m ≤ 32767) (w : World) : Calls Tryd.prog 12 #[code op a b c m] w fun e w' => e = .returned (.bool (vld op a b c m)) ∧ Below w.heap.size w w' := by
  by_cases ho : 1 ≤ op ∧ op ≤ 30
  · obtain ⟨h0, h1⟩ := ho
    have H0 := Lib.hid h0
    have H1 := Lib.hid h1
    go_enter Tryd.func12, Tryd.ntmps12
    go_wp2_with fail
    refine (describe_in op H0.out H1.out _).mono ?_
    rintro e w1 ⟨n, rfl, hn, T, hb1⟩
    obtain ⟨sa, hsa, L⟩ := T.lst op.toNat (by omega)
    rw [hsa]
    have C := (Cod.new (w := w) op a b c m 24).next hb1
    have L3 := shp_len op.toNat
    obtain ⟨lt, c0, c1, c2, c3, c4, f0, f1, f2, f3, f4⟩ := C
    have HSA := Lib.hid hsa
    have kb1 : Below w.heap.size w w1 := bt (ba w _) hb1
    clear hsa
    go_wp2_with fail
    have C0 : Cod w.heap.size op a b c m w1 := ⟨lt, c0, c1, c2, c3, c4, f0, f1, f2, f3, f4⟩
    have hl3 : ((shp op.toNat).length : Int) ≤ 3 := by omega
    clear lt c0 c1 c2 c3 c4 f0 f1 f2 f3 f4 T hn hb1
    have hlt1 : w.heap.size + 1 ≤ w1.heap.size := C0.lt
    go_loopw [23] (fun i wr => ∃ k : Nat, k ≤ (shp op.toNat).length ∧ i = .int .i64 k ∧ VIn w w.heap.size (w1.heap.size + 1) sa op a b c m k wr) (fun i _ => (shp op.toNat).length - (intOf i).toNat)
    case atStart =>
      refine ⟨0, by omega, rfl, ?_, (L.next (ba w1 _)).next (ba _ _), (C0.next (ba w1 _)).next (ba _ _), ?_, by simp, fun b e h => Nat.lt_succ_of_lt (L.bound b e h)⟩
      · exact bt (bt kb1 (ba w1 _)) (ba _ _)
      · simpa [kept] using Cod.new (w := w1.alloc (.cells #[.string (nam op.toNat), .slice sa (shp op.toNat).length (shp op.toNat).length] 46)) op 0 0 0 0 24
    case round =>
      obtain ⟨k, hk, rfl, V⟩ := hrel
      by_cases hlt : k < (shp op.toNat).length
      · obtain ⟨sb, rfl, hsb, hcell⟩ := V.lst.at_ k _ (List.getElem?_eq_getElem hlt)
        have hin := shp_in op.toNat _ (List.getElem_mem hlt)
        obtain ⟨lt, c0, c1, c2, c3, c4, f0, f1, f2, f3, f4⟩ := V.arg
        have HV := Lib.hid V
        clear V C0 L
        rcases hin with hx | hx | hx | hx
        · have HX := Lib.hid hx
          rw [hx] at hcell
          clear hx
          go_wp2_with fail
          refine (get_0 op a b c m hm _).mono ?_
          rintro e w2 ⟨rfl, hb2⟩
          have A2 := HV.out.arg.next hb2
          have O2 := HV.out.own.next hb2
          clear lt c0 c1 c2 c3 c4 f0 f1 f2 f3 f4 hcell
          by_cases hf : 0 ≤ a ∧ a < 8
          · obtain ⟨hf0, hf1⟩ := hf
            go_wp2_with fail
            refine (set_c _ op _ _ _ _ 0 a (by simp) _ O2).mono ?_
            rintro e w3 ⟨rfl, rfl⟩
            have S := HV.out.step hlt (by rw [HX.out]; simp [fits, fieldOf]; omega) hm hb2 (by omega) (by omega)
            rw [HX.out] at S
            go_wp2_with fail
            go_roundw
            case rel => exact ⟨k + 1, by omega, by go_num, by simpa [fieldOf] using S⟩
            case measure => simp [intOf]; omega
          · go_wp2_with fail
            all_goals go_ret
            all_goals exact ⟨ret_bool (vld_no hlt (by rw [HX.out]; simp [fits, fieldOf]; omega)).symm, bt HV.out.below hb2⟩
        · have HX := Lib.hid hx
          rw [hx] at hcell
          clear hx
          go_wp2_with fail
          refine (get_1 op a b c m hm _).mono ?_
          rintro e w2 ⟨rfl, hb2⟩
          have A2 := HV.out.arg.next hb2
          have O2 := HV.out.own.next hb2
          clear lt c0 c1 c2 c3 c4 f0 f1 f2 f3 f4 hcell
          by_cases hf : 0 ≤ b ∧ b < 8
          · obtain ⟨hf0, hf1⟩ := hf
            go_wp2_with fail
            refine (set_c _ op _ _ _ _ 1 b (by simp) _ O2).mono ?_
            rintro e w3 ⟨rfl, rfl⟩
            have S := HV.out.step hlt (by rw [HX.out]; simp [fits, fieldOf]; omega) hm hb2 (by omega) (by omega)
            rw [HX.out] at S
            go_wp2_with fail
            go_roundw
            case rel => exact ⟨k + 1, by omega, by go_num, by simpa [fieldOf] using S⟩
            case measure => simp [intOf]; omega
          · go_wp2_with fail
            all_goals go_ret
            all_goals exact ⟨ret_bool (vld_no hlt (by rw [HX.out]; simp [fits, fieldOf]; omega)).symm, bt HV.out.below hb2⟩
        · have HX := Lib.hid hx
          rw [hx] at hcell
          clear hx
          go_wp2_with fail
          refine (get_2 op a b c m hm _).mono ?_
          rintro e w2 ⟨rfl, hb2⟩
          have A2 := HV.out.arg.next hb2
          have O2 := HV.out.own.next hb2
          clear lt c0 c1 c2 c3 c4 f0 f1 f2 f3 f4 hcell
          by_cases hf : 0 ≤ c ∧ c < 8
          · obtain ⟨hf0, hf1⟩ := hf
            go_wp2_with fail
            refine (set_c _ op _ _ _ _ 2 c (by simp) _ O2).mono ?_
            rintro e w3 ⟨rfl, rfl⟩
            have S := HV.out.step hlt (by rw [HX.out]; simp [fits, fieldOf]; omega) hm hb2 (by omega) (by omega)
            rw [HX.out] at S
            go_wp2_with fail
            go_roundw
            case rel => exact ⟨k + 1, by omega, by go_num, by simpa [fieldOf] using S⟩
            case measure => simp [intOf]; omega
          · go_wp2_with fail
            all_goals go_ret
            all_goals exact ⟨ret_bool (vld_no hlt (by rw [HX.out]; simp [fits, fieldOf]; omega)).symm, bt HV.out.below hb2⟩
        · have HX := Lib.hid hx
          rw [hx] at hcell
          clear hx
          go_wp2_with fail
          refine (get_3 op a b c m hm _).mono ?_
          rintro e w2 ⟨rfl, hb2⟩
          have A2 := HV.out.arg.next hb2
          clear lt c0 c1 c2 c3 c4 f0 f1 f2 f3 f4 hcell
          obtain ⟨lt, c0, c1, c2, c3, c4, f0, f1, f2, f3, f4⟩ := A2
          go_wp2_with fail
          refine (imm_c op m hm _).mono ?_
          rintro e w3 ⟨rfl, hb3⟩
          have O2 := HV.out.own.next (bt hb2 hb3)
          cases hi : immOk op m
          · go_wp2_with fail
            all_goals go_ret
            all_goals exact ⟨ret_bool (vld_no hlt (by rw [HX.out]; simp [fits, hi])).symm, bt HV.out.below (bt hb2 hb3)⟩
          · go_wp2_with fail
            refine (set_c _ op _ _ _ _ 3 m (by simp) _ O2).mono ?_
            rintro e w4 ⟨rfl, rfl⟩
            have S := HV.out.step hlt (by rw [HX.out]; simp [fits, hi]) hm (bt hb2 hb3) (by omega) (by omega)
            rw [HX.out] at S
            go_wp2_with fail
            go_roundw
            case rel => exact ⟨k + 1, by omega, by go_num, by simpa [fieldOf] using S⟩
            case measure => simp [intOf]; omega
      · obtain rfl : k = (shp op.toNat).length := by omega
        obtain ⟨lt, c0, c1, c2, c3, c4, f0, f1, f2, f3, f4⟩ := V.arg
        obtain ⟨lt', d0, d1, d2, d3, d4, g0, g1, g2, g3, g4⟩ := V.own
        have hok := V.ok
        simp only [List.take_length] at d1 d2 d3 d4 hok
        have HOK := Lib.hid hok
        have HV := Lib.hid V.below
        clear hok V C0 L
        go_wp2_with fail
        all_goals go_ret
        all_goals refine ⟨ret_bool ?_, HV.out⟩
        all_goals go_light
        all_goals (rw [vld, HOK.out]; simp [*]; try omega)
  · have H := Lib.hid ho
    clear ho
    go_enter Tryd.func12, Tryd.ntmps12
    go_wp2_with fail
    refine (describe_out op (by have := H.out; omega) _).mono ?_
    rintro e w1 ⟨rfl, hb1⟩
    go_wp2_with fail
    go_ret
    exact ⟨ret_bool (vld_out (by have := H.out; omega)).symm, bt (bt (ba w _) hb1) (ba w1 _)⟩
end Go.Proofs.YtpgjmegecfaijaaDoor
