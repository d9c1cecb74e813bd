/-
  The reference's Parse.
-/
import Derived.Test.YtgdaekjodhebfaaDoorRli
import Derived.Test.YtgdaekjodhebfaaDoorPrs
namespace Go.Proofs.YtgdaekjodhebfaaDoor
open Go.RowKit

/-- what the reference's Parse answers -/
def RParseP (s : List UInt8) (w : World) (e : Ending) (w' : World) : Prop := ∃ (l : List (Int × Int)) (rest : List UInt8), s = txt l ++ rest ∧ InB l ∧ validL l = true ∧ ((rest = [] ∧ ∃ A cap, e = .returned (.tuple #[.slice A l.length cap, .int .i64 0, .bool true]) ∧ Chs w' A l) ∨ (rest ≠ [] ∧ Stuck l rest ∧ e = .returned (.tuple #[.slice none 0 0, .int .i64 (l.length + 1), .bool false]))) ∧ Below w.heap.size w w'
theorem sml_64 {t : Int} (h : Sml t) : B64 t := ⟨by have := h.1; omega, by have := h.2; omega⟩
theorem valid_sml {l : List (Int × Int)} {x : Int × Int} (h : validL (l ++ [x]) = true) : Sml x.1 := by
  have := bound_at h (i := l.length) (by simp)
  simp at this
  unfold Sml
  omega
theorem stuck_rline {l : List (Int × Int)} {p q : List UInt8} (hp : (10 : UInt8) ∉ p) (h : ∀ x : Int × Int, Sml x.1 → B16 x.2 → p ≠ Lib.itoa x.1 ++ [32] ++ Lib.itoa x.2) : Stuck l (p ++ 10 :: q) := fun x _ x2 hv hx => by
  obtain ⟨t, ht⟩ := hx
  have e : lineT x ++ t = (Lib.itoa x.1 ++ [32] ++ Lib.itoa x.2) ++ 10 :: t := by unfold lineT; simp
  rw [e] at ht
  obtain ⟨h1, -⟩ := cut_uniq (lineT_no10 x) hp ht
  exact h x (valid_sml hv) x2 h1.symm
theorem is10 {c : UInt8} (h : c = 10) : ((c.toNat : Int) == 10) = true := by rw [h]; rfl
theorem not10 {c : UInt8} (h : ¬ c = 10) : ((c.toNat : Int) == 10) = false := by
  have : c.toNat ≠ 10 := fun e => h (UInt8.toNat_inj.1 e)
  simp; omega
theorem nis10 {c : UInt8} (h : c = 10) : ((c.toNat : Int) != 10) = false := by rw [h]; rfl
theorem nnot10 {c : UInt8} (h : ¬ c = 10) : ((c.toNat : Int) != 10) = true := by
  have : c.toNat ≠ 10 := fun e => h (UInt8.toNat_inj.1 e)
  simp; omega
/-- the bytes from f to i -/
def seg (s : List UInt8) (f i : Nat) : List UInt8 := (s.take i).drop f
theorem seg_data (s : ByteArray) (f i : Nat) : (s.extract f i).data.toList = seg s.data.toList f i := by
  rw [Lib.extract_data]
  unfold seg
  rw [List.drop_take]
theorem seg_snoc {s : List UInt8} {f i : Nat} (hf : f ≤ i) (hi : i < s.length) : seg s f (i + 1) = seg s f i ++ [s[i]] := by
  unfold seg
  rw [List.take_succ_eq_append_getElem hi, List.drop_append_of_le_length (by simp; omega)]
theorem drop_seg {s : List UInt8} {f i : Nat} (hf : f ≤ i) (hi : i < s.length) : s.drop f = seg s f i ++ s[i] :: s.drop (i + 1) := by
  unfold seg
  conv => lhs; rw [← List.take_append_drop i s]
  rw [List.drop_append_of_le_length (by simp; omega), List.drop_eq_getElem_cons hi]
structure RP (s : List UInt8) (l : List (Int × Int)) (f i : Nat) : Prop where
  fi : f ≤ i
  le : i ≤ s.length
  cut : s = txt l ++ s.drop f
  no10 : (10 : UInt8) ∉ seg s f i
  last : i < s.length ∨ f = i
  inb : InB l
  val : validL l = true
theorem RP.start (s : List UInt8) : RP s [] 0 0 := ⟨by omega, by omega, by simp [txt], by simp [seg], .inr rfl, (fun x hx => by cases hx), rfl⟩
theorem RP.on {s : List UInt8} {l : List (Int × Int)} {f i : Nat} (h : RP s l f i) (hi : i + 1 < s.length) (hc : s[i] ≠ 10) : RP s l f (i + 1) :=
  ⟨by have := h.fi; omega, by omega, h.cut, by rw [seg_snoc h.fi (by omega)]; simp; exact ⟨h.no10, Ne.symm hc⟩, .inl hi, h.inb, h.val⟩
theorem RP.len {s : List UInt8} {l : List (Int × Int)} {f i : Nat} (h : RP s l f i) : l.length * 4 ≤ s.length := by
  have h1 := txt_len l
  have h2 := congrArg List.length h.cut
  rw [List.length_append] at h2
  omega
theorem RP.stuck_last {s : List UInt8} {l : List (Int × Int)} {f i : Nat} (h : RP s l f i) (hi : i + 1 = s.length) (hc : s[i] ≠ 10) : Stuck l (s.drop f) := stuck_none (by
  rw [drop_seg h.fi (by omega), List.drop_eq_nil_of_le (by omega)]
  simp
  exact ⟨h.no10, Ne.symm hc⟩)
theorem RP.stuck_no {s : List UInt8} {l : List (Int × Int)} {f i : Nat} (h : RP s l f i) (hi : i < s.length) (hc : s[i] = 10) (hx : ∀ x : Int × Int, Sml x.1 → B16 x.2 → seg s f i ≠ Lib.itoa x.1 ++ [32] ++ Lib.itoa x.2) : Stuck l (s.drop f) := by
  rw [drop_seg h.fi hi, hc]
  exact stuck_rline h.no10 hx
theorem RP.line {s : List UInt8} {l : List (Int × Int)} {f i : Nat} (h : RP s l f i) (hi : i < s.length) (hc : s[i] = 10) {x : Int × Int} (hx : seg s f i = Lib.itoa x.1 ++ [32] ++ Lib.itoa x.2) : s.drop f = lineT x ++ s.drop (i + 1) := by
  rw [drop_seg h.fi hi, hc, hx]
  unfold lineT
  simp
theorem RP.stuck_val {s : List UInt8} {l : List (Int × Int)} {f i : Nat} (h : RP s l f i) (hi : i < s.length) (hc : s[i] = 10) {x : Int × Int} (hx : seg s f i = Lib.itoa x.1 ++ [32] ++ Lib.itoa x.2) (hv : validL (l ++ [x]) = false) : Stuck l (s.drop f) := by
  rw [h.line hi hc hx]
  exact stuck_after hv
theorem RP.rest_ne {s : List UInt8} {l : List (Int × Int)} {f i : Nat} (h : RP s l f i) (hi : i < s.length) : s.drop f ≠ [] := by
  rw [drop_seg h.fi hi]
  exact fun e => by
    have := congrArg List.length e
    simp only [List.length_append, List.length_cons, List.length_nil] at this
    omega
theorem RP.next {s : List UInt8} {l : List (Int × Int)} {f i : Nat} (h : RP s l f i) (hi : i < s.length) (hc : s[i] = 10) {x : Int × Int} (hx : seg s f i = Lib.itoa x.1 ++ [32] ++ Lib.itoa x.2) (hb : B64 x.1 ∧ B16 x.2) (hv : validL (l ++ [x]) = true) : RP s (l ++ [x]) (i + 1) (i + 1) := by
  refine ⟨Nat.le_refl _, by omega, ?_, by unfold seg; rw [List.drop_eq_nil_of_le (by simp; omega)]; simp, .inr rfl, fun y hy => ?_, hv⟩
  · conv => lhs; rw [h.cut, h.line hi hc hx]
    rw [txt_snoc, List.append_assoc]
  · rcases List.mem_append.1 hy with hy | hy
    · exact h.inb y hy
    · rw [List.mem_singleton.1 hy]; exact hb
theorem RP.done {s : List UInt8} {l : List (Int × Int)} {f : Nat} (h : RP s l f s.length) : s.drop f = [] := by
  rcases h.last with h1 | h1
  · omega
  · rw [h1]; simp
set_option maxRecDepth 100000 in
set_option maxHeartbeats 4000000 in
theorem rparse_c (s : ByteArray) (hs : s.size ≤ 2000) (w : World) : Calls Tryd.prog 23 #[.string s] w (RParseP s.data.toList w) := by
  obtain ⟨i32, hi, hz0, hz1, hz2⟩ := info_parts info32
  have hdl := dlen s
  have HDL := Lib.hid hdl
  clear hdl
  go_enter Tryd.func23, Tryd.ntmps23
  go_wp2_with fail
  go_loopw [5, 6, 7, 8] (fun v n f i wr => ∃ (l : List (Int × Int)) (F I : Nat), n = .int .i64 l.length ∧ f = .int .i64 F ∧ i = .int .i64 I ∧ RP s.data.toList l F I ∧ Below w.heap.size w wr ∧ wr.ownsRow w.heap.size 32 2 v l.length (flat l)) (fun _ _ _ i _ => s.size - (intOf i).toNat)
  case atStart => exact ⟨[], 0, 0, rfl, rfl, rfl, RP.start _, Below.refl _ _, World.ownsRow_nil _ _ _ _⟩
  case round =>
    obtain ⟨l, F, I, rfl, rfl, rfl, P, hbr, hown⟩ := hrel
    have HP := Lib.hid P
    have HB := Lib.hid hbr
    have hsz := hbr.size
    have hFI := P.fi
    have hIs : I ≤ s.size := by have := P.le; rw [HDL.out] at this; exact this
    have hl4 := P.len
    rw [HDL.out] at hl4
    have hl5 : l.length ≤ 500 := by omega
    have hl6 : (l.length : Int) ≤ 500 := by omega
    clear P hbr hl4
    by_cases hlt : I < s.size
    · have hltd : I < s.data.toList.length := by rw [HDL.out]; exact hlt
      have hge : s[I] = s.data.toList[I] := rfl
      have HGE := Lib.hid hge
      clear hge
      have hF1 : (0 : Int) ≤ (F : Int) := by omega
      have hF2 : (F : Int) ≤ (I : Int) := by omega
      have hF3 : (I : Int) ≤ (s.size : Int) := by omega
      by_cases hc : s[I] = 10
      · have t1 := is10 hc
        have t2 := nis10 hc
        have HC := Lib.hid (HGE.out.symm.trans hc)
        clear hc
        have hsx : (s.extract F I).size ≤ 2000 := by simp; omega
        have HSX := Lib.hid (seg_data s F I)
        go_wp2_with fail
        refine (rline_c _ hsx _).mono ?_
        rintro e w1 ⟨t, u, b, rfl, hyes, hno, hb1⟩
        rw [HSX.out] at hyes hno
        have HYN := Lib.hid (And.intro hyes hno)
        clear hyes hno
        replace hown := owns_below hown hb1
        have K1 := Lib.hid (bt HB.out hb1)
        have hsz1 := K1.out.size
        clear hb1
        have hnews := news_change (w1.alloc (.cells #[.int .i64 t, .int .i16 u] 32)) t u 32
        rw [World.size_alloc] at hnews
        have HN := Lib.hid hnews
        clear hnews
        cases b
        · have HST := Lib.hid (HP.out.stuck_no hltd HC.out (HYN.out.2 rfl))
          go_wp2_with (at_builtin; refine wpList_append_own _ rfl (.tmp 38) (.tmp 40) 35 rfl w.heap.size 32 i32 (.agg #[.int .i64 0, .int .i16 0]) 2 16 Tryd.underlying35 hi hz0 hz1 hz2 rfl (by decide) _ _ _ rfl ((hown.alloc _).alloc _) ⟨w1.heap.size + 1, 0, none⟩ 1 1 [.int .i64 t, .int .i16 u] rfl rfl HN.out (one_change _ _) (by unfold maxLen; omega) (by omega) (by simp; omega) ?_; intro v1 w7 hown1 hgrow1 hnil1)
          have K2 : Below w.heap.size w w7 := ((K1.out.alloc (by omega) _).alloc (by simp; omega) _).grown hgrow1 (by simp; omega) (fun j hj => (hown.lt j hj).1)
          have HE := Lib.hid (HP.out.rest_ne hltd)
          have HPC := Lib.hid HP.out.cut
          go_ret3
          exact ⟨l, _, HPC.out, HP.out.inb, HP.out.val, .inr ⟨HE.out, HST.out, rfl⟩, K2⟩
        · obtain ⟨hx, sm, b16⟩ := HYN.out.1 rfl
          have HX := Lib.hid hx
          have HBX := Lib.hid (And.intro (sml_64 sm) b16)
          clear hx sm b16
          go_wp2_with (at_builtin; refine wpList_append_own _ rfl (.tmp 38) (.tmp 40) 35 rfl w.heap.size 32 i32 (.agg #[.int .i64 0, .int .i16 0]) 2 16 Tryd.underlying35 hi hz0 hz1 hz2 rfl (by decide) _ _ _ rfl ((hown.alloc _).alloc _) ⟨w1.heap.size + 1, 0, none⟩ 1 1 [.int .i64 t, .int .i16 u] rfl rfl HN.out (one_change _ _) (by unfold maxLen; omega) (by omega) (by simp; omega) ?_; intro v1 w7 hown1 hgrow1 hnil1)
          have K2 : Below w.heap.size w w7 := ((K1.out.alloc (by omega) _).alloc (by simp; omega) _).grown hgrow1 (by simp; omega) (fun j hj => (hown.lt j hj).1)
          have ho2 : w7.ownsRow w.heap.size 32 2 v1 (l ++ [(t, u)]).length (flat (l ++ [(t, u)])) := by rw [flat_append, List.length_append]; exact hown1
          have HO2 := Lib.hid ho2
          obtain ⟨A2, cap2, rfl, -, C2⟩ := Chs.of_own ho2
          have hln : (l ++ [(t, u)]).length = l.length + 1 := by simp
          clear ho2 hown1 hgrow1 hnil1
          refine (rvalid_c (l ++ [(t, u)]) (by omega) A2 cap2 _ C2).mono ?_
          rintro e w8 ⟨rfl, hb8⟩
          have K3 := Lib.hid (bt K2 hb8)
          have HO3 := Lib.hid (owns_below HO2.out hb8)
          clear hb8 K2 C2 HO2
          have HLN := Lib.hid hln
          clear hln
          cases hv : validL (l ++ [(t, u)])
          · have HST := Lib.hid (HP.out.stuck_val hltd HC.out HX.out hv)
            clear hv
            go_wp2_with fail
            go_ret3
            exact ⟨l, _, HP.out.cut, HP.out.inb, HP.out.val, .inr ⟨HP.out.rest_ne hltd, HST.out, rfl⟩, K3.out⟩
          · have HNX := Lib.hid (HP.out.next hltd HC.out HX.out HBX.out hv)
            clear hv
            go_wp2_with fail
            go_roundw
            case rel => exact ⟨l ++ [(t, u)], I + 1, I + 1, by rw [HLN.out]; go_num, by go_num, by go_num, HNX.out, K3.out, by rw [← HLN.out]; exact HO3.out⟩
            case measure => simp [intOf]; omega
      · have t1 := not10 hc
        have t2 := nnot10 hc
        have HC := Lib.hid (show s.data.toList[I] ≠ 10 from fun e => hc (HGE.out.trans e))
        clear hc
        by_cases hl1 : I + 1 < s.size
        · have hl2 : (I : Int) + 1 < (s.size : Int) := by omega
          have HON := Lib.hid (HP.out.on (by rw [HDL.out]; exact hl1) HC.out)
          go_wp2_with fail
          go_roundw
          case rel => exact ⟨l, F, I + 1, rfl, rfl, by go_num, HON.out, HB.out, hown⟩
          case measure => simp [intOf]; omega
        · have hl2 : ¬ (I : Int) + 1 < (s.size : Int) := by omega
          have HST := Lib.hid (HP.out.stuck_last (by rw [HDL.out]; omega) HC.out)
          have hsx : (s.extract F I).size ≤ 2000 := by simp; omega
          have HSX := Lib.hid (seg_data s F I)
          go_wp2_with fail
          refine (rline_c _ hsx _).mono ?_
          rintro e w1 ⟨t, u, b, rfl, hyes, hno, hb1⟩
          rw [HSX.out] at hyes hno
          have HYN := Lib.hid (And.intro hyes hno)
          clear hyes hno
          replace hown := owns_below hown hb1
          have K1 := Lib.hid (bt HB.out hb1)
          have hsz1 := K1.out.size
          clear hb1
          have hnews := news_change (w1.alloc (.cells #[.int .i64 t, .int .i16 u] 32)) t u 32
          rw [World.size_alloc] at hnews
          have HN := Lib.hid hnews
          clear hnews
          go_wp2_with (at_builtin; refine wpList_append_own _ rfl (.tmp 38) (.tmp 40) 35 rfl w.heap.size 32 i32 (.agg #[.int .i64 0, .int .i16 0]) 2 16 Tryd.underlying35 hi hz0 hz1 hz2 rfl (by decide) _ _ _ rfl ((hown.alloc _).alloc _) ⟨w1.heap.size + 1, 0, none⟩ 1 1 [.int .i64 t, .int .i16 u] rfl rfl HN.out (one_change _ _) (by unfold maxLen; omega) (by omega) (by simp; omega) ?_; intro v1 w7 hown1 hgrow1 hnil1)
          have K2 : Below w.heap.size w w7 := ((K1.out.alloc (by omega) _).alloc (by simp; omega) _).grown hgrow1 (by simp; omega) (fun j hj => (hown.lt j hj).1)
          go_ret3
          exact ⟨l, _, HP.out.cut, HP.out.inb, HP.out.val, .inr ⟨HP.out.rest_ne hltd, HST.out, rfl⟩, K2⟩
    · obtain rfl : I = s.size := by omega
      have HD := Lib.hid (show s.data.toList.drop F = [] from by
        have h := HP.out
        rw [← HDL.out] at h
        exact h.done)
      go_wp2_with fail
      obtain ⟨A, cap, rfl, -, C⟩ := Chs.of_own hown
      go_ret3
      exact ⟨l, [], by rw [← HD.out]; exact HP.out.cut, HP.out.inb, HP.out.val, .inl ⟨rfl, A, cap, rfl, C⟩, HB.out⟩
end Go.Proofs.YtgdaekjodhebfaaDoor
