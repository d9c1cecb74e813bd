/-
  Parse: the trace of a text, or the number of its first invalid line.
-/
import Derived.Test.YtgdaekjodhebfaaDoorRdl
import Derived.Test.YtgdaekjodhebfaaDoorTxp
namespace Go.Proofs.YtgdaekjodhebfaaDoor
open Go.RowKit

theorem first_cut (r : List UInt8) : ∃ m : Nat, Lib.indexByte r 10 = (m : Int) - 1 ∧ m ≤ r.length ∧ ((∀ x : Int × Int, B64 x.1 → B16 x.2 → r.take m ≠ lineT x) → ∀ l, Stuck l r) := by
  rcases first_line r with ⟨h, hn⟩ | ⟨k, h, hk, p, q, rfl, hp, rfl⟩
  · exact ⟨0, by rw [h]; rfl, by omega, fun _ l => stuck_none hn⟩
  · refine ⟨p.length + 1, by rw [h]; omega, by simp, fun H l => stuck_line hp (fun x x1 x2 e => H x x1 x2 ?_)⟩
    rw [← e, show p ++ 10 :: q = (p ++ [10]) ++ q from by simp, show p.length + 1 = (p ++ [10]).length from by simp, List.take_left]
theorem itoa_pos (n : Int) : 1 ≤ (Lib.itoa n).length := by
  by_cases h : n < 0
  · rw [Dec.itoa_neg h]; simp
  · rw [Dec.itoa_nonneg (by omega)]; exact Dec.decDigits_pos _
theorem txt_len (l : List (Int × Int)) : l.length * 4 ≤ (txt l).length := by
  induction l with
  | nil => simp [txt]
  | cons x l ih =>
    rw [txt_cons]
    have h1 := itoa_pos x.1
    have h2 := itoa_pos x.2
    simp [lineT]
    omega
/-- what Parse answers -/
def ParsesP (s : List UInt8) (w : World) (e : Ending) (w' : World) : Prop := ∃ (l : List (Int × Int)) (rest : List UInt8), s = txt l ++ rest ∧ InB l ∧ validL l = true ∧ ((rest = [] ∧ ∃ tp, e = .returned (.tuple #[.pointer (some ⟨tp, 0, none⟩), .int .i64 0, .int .i64 0]) ∧ w.heap.size ≤ tp ∧ Trc w' tp l) ∨ (rest ≠ [] ∧ Stuck l rest ∧ e = .returned (.tuple #[.pointer none, .int .i64 (l.length + 1), .int .i64 2]))) ∧ Below w.heap.size w w'
def strSize (v : Value) : Nat := match v with | .string s => s.size | _ => 0
theorem new_slice (w : World) : TN w w.heap.size [] (.slice none 0 0) (w.alloc (.cells #[.slice none 0 0] 60)) := ⟨ba w _, Nat.le_refl _, by simp, (World.cell?_alloc_at _ _ _ _ rfl).trans rfl, World.frozen?_alloc_at _ _ _ _ rfl, World.ownsRow_nil _ _ _ _⟩
theorem valid_snoc (l : List (Int × Int)) (x : Int × Int) (h : validL l = true) : validL (l ++ [x]) = folB l x.1 := by
  unfold validL at *
  rw [vfrom_snoc, h]
  rfl
set_option maxRecDepth 100000 in
set_option maxHeartbeats 3000000 in
theorem sparse_c (s : ByteArray) (hs : s.size ≤ 2000) (w : World) (hr : Ready w) : Calls Tryd.prog 22 #[.string s] w (ParsesP s.data.toList w) := by
  obtain ⟨i29, hi, hz0, hz1, hz2⟩ := info_parts info29
  have hdl : s.data.toList.length = s.size := by simp
  have HDL := Lib.hid hdl
  clear hdl
  go_enter Tryd.func22, Tryd.ntmps22
  go_wp2_with fail
  have T0 := new_slice w
  go_loopw [0, 6] (fun sv n wr => ∃ (l : List (Int × Int)) (r : ByteArray) (v : Value), sv = .string r ∧ s.data.toList = txt l ++ r.data.toList ∧ n = .int .i64 (l.length + 1) ∧ TN w w.heap.size l v wr ∧ validL l = true ∧ InB l) (fun sv _ _ => strSize sv)
  case atStart => exact ⟨[], s, _, rfl, rfl, rfl, T0, rfl, fun x hx => by cases hx⟩
  case round =>
    obtain ⟨l, r, v, rfl, hsr, rfl, T, hv, hin⟩ := hrel
    have hrl : r.data.toList.length = r.size := by simp
    have hsum : s.size = (txt l).length + r.size := by rw [← HDL.out, hsr, List.length_append, hrl]
    have hl4 := txt_len l
    have hl5 : l.length ≤ 500 := by omega
    have hrs : r.size ≤ 2000 := by omega
    have HT := Lib.hid T
    have HV := Lib.hid hv
    have HI := Lib.hid hin
    have HS := Lib.hid hsr
    have HRL := Lib.hid hrl
    have hl6 : (l.length : Int) ≤ 500 := by omega
    clear hsum hl4 hsr hv hin T T0 hrl
    by_cases hemp : r.data.toList = []
    · have e1 : r.toList = [] := by rw [Lib.toList_data]; exact hemp
      have e2 : (!r.toList.isEmpty) = false := by rw [e1]; rfl
      have HE := Lib.hid hemp
      clear hemp
      go_wp2_with fail
      go_ret3
      exact ⟨l, [], by rw [HS.out, HE.out], HI.out, HV.out, .inl ⟨rfl, _, rfl, Nat.le_refl _, HT.out.trc⟩, HT.out.below⟩
    · have e1 : r.toList.isEmpty = false := by rw [Lib.toList_data]; simpa using hemp
      have e2 : (!r.toList.isEmpty) = true := by rw [e1]; rfl
      have e3 : ¬ r.toList = [] := by rw [Lib.toList_data]; exact hemp
      have HE := Lib.hid hemp
      clear hemp
      obtain ⟨m, hm, hml, hst⟩ := first_cut r.data.toList
      rw [HRL.out] at hml
      have HM := Lib.hid hm
      have HST := Lib.hid hst
      clear hm hst
      have m0 : (0 : Int) ≤ (m : Int) := by omega
      have m1 : (m : Int) ≤ (r.size : Int) := by omega
      have hsx : (r.extract 0 m).size ≤ 2000 := by simp; omega
      have hdx : (r.extract 0 m).data.toList = r.data.toList.take m := by rw [Lib.extract_data]; simp
      have HDX := Lib.hid hdx
      clear hdx
      have hrw : Ready wr := hr.below HT.out.below
      go_wp2_with fail
      refine (Tryd.strings_IndexByte r 10 _).mono ?_
      rintro e w1 ⟨rfl, rfl⟩
      rw [show (10 : Int).toNat.toUInt8 = 10 from rfl, HM.out]
      go_wp2_with fail
      refine (parse_c _ hsx _ hrw).mono ?_
      rintro e w1 ⟨t, u, b, rfl, hyes, hno, hb1⟩
      have T1 := HT.out.next hb1
      rw [HDX.out] at hyes hno
      cases b
      · have HNO := Lib.hid (HST.out (hno rfl) l)
        clear hyes hno
        go_wp2_with fail
        go_ret3
        exact ⟨l, r.data.toList, HS.out, HI.out, HV.out, .inr ⟨HE.out, HNO.out, rfl⟩, T1.below.alloc T1.below.size _⟩
      · obtain ⟨t64, u16, hline⟩ := hyes rfl
        clear hno hyes
        have hrr : r.data.toList = lineT (t, u) ++ r.data.toList.drop m := by rw [← hline, List.take_append_drop]
        have HRR := Lib.hid hrr
        have HIN := Lib.hid (And.intro t64 u16)
        have hmpos : 0 < m := by
          rcases Nat.eq_zero_or_pos m with h | h
          · subst h
            have := congrArg List.length hline
            simp [lineT] at this
          · exact h
        clear hline hrr t64 u16
        have HVS := Lib.hid (valid_snoc l (t, u) HV.out)
        have HN := Lib.hid (new_change w1 t u 29)
        have T2 := T1.next (ba w1 (.cells #[.int .i64 t, .int .i16 u] 29))
        have HT1 := Lib.hid T1
        clear T1
        by_cases hf : folB l t = true
        · have HV2 := Lib.hid (show validL (l ++ [(t, u)]) = true from by rw [HVS.out]; exact hf)
          have HF := Lib.hid hf
          clear hf
          go_wp2_with fail
          refine (follows_c l (by omega) HV.out t u w.heap.size _ T2.trc).mono ?_
          rintro e w2 ⟨rfl, hb2⟩
          rw [HF.out]
          replace T2 := T2.next hb2
          have n0 := ((bcell hb2).1 w1.heap.size 0 (by simp)).trans HN.out.1
          have n1 := ((bcell hb2).1 w1.heap.size 1 (by simp)).trans HN.out.2
          have hcb : w1.heap.size < w2.heap.size := Nat.lt_of_lt_of_le (by simp) hb2.size
          clear hb2
          go_wp2_with fail
          have HT2 := Lib.hid T2
          have hown := T2.own
          have t0 := T2.cell
          have t1 := T2.froz
          have hge := T2.ge
          have htl := T2.lt
          have hne : v.ownBlock ≠ some w.heap.size := fun e => by have := (hown.lt _ e).1; omega
          have hne2 : v.ownBlock ≠ some w1.heap.size := fun e => by have := (HT1.out.own.lt _ e).2; omega
          have a0 := ((bcell (ba w2 (.cells #[.int .i64 t, .int .i16 u] 29))).1 w.heap.size 0 htl).trans t0
          have a1 := ((bcell (ba w2 (.cells #[.int .i64 t, .int .i16 u] 29))).2 w.heap.size 0 htl).trans t1
          have a2 := ((bcell (ba w2 (.cells #[.int .i64 t, .int .i16 u] 29))).1 w1.heap.size 0 hcb).trans n0
          have a3 := ((bcell (ba w2 (.cells #[.int .i64 t, .int .i16 u] 29))).1 w1.heap.size 1 hcb).trans n1
          clear T2
          go_region_law ((refine step_append_lies _ (by rfl) _ _ _ (by rfl) (w.heap.size + 1) 29 i29 _ 2 16 Tryd.underlying22 hi hz0 hz1 hz2 rfl (by omega) v l.length (flat l) (by rfl) ((hown.alloc _).drew) ⟨w2.heap.size, 0, none⟩ 1 1 [.int .i64 t, .int .i16 u] (by rfl) (by rfl) (World.news_of_block (cs := #[.int .i64 t, .int .i16 u]) (t := 29) (fr := (0, 0)) (heap_alloc_new w2 _)) (by simp [Value.oneCell']) (by omega) (by unfold maxLen; omega) (by omega) (by simp; omega) (w2.heap.size + 1) (by simp) ?_; intro gg cap2 w3 hown1 hgrow hat hlt2; have s0 := (hgrow.cell_far _ (by simp; omega) (Ne.symm hne)).trans a0; have s1 := (hgrow.frozen_far _ (by simp; omega) (Ne.symm hne)).trans a1))
          all_goals
            have T3 : TN w w.heap.size (l ++ [(t, u)]) _ _ := HT2.out.grow hgrow (nv := .slice (some ⟨gg, 0, none⟩) (l.length + 1) cap2) (by rw [flat_append, flat_cons, flat_nil]; simpa using hown1)
            have HT3 := Lib.hid T3
            clear T3
            have hlm : (l ++ [(t, u)]).length = l.length + 1 := by simp
            have HLM := Lib.hid hlm
            clear hlm
            go_wp2_with fail
            go_roundw
            case rel => exact ⟨l ++ [(t, u)], r.extract m r.size, _, rfl, by rw [txt_snoc, drop_k, List.append_assoc, ← HRR.out]; exact HS.out, by rw [HLM.out]; go_num, HT3.out, HV2.out, fun x hx => by
              rcases List.mem_append.1 hx with h | h
              · exact HI.out x h
              · rw [List.mem_singleton.1 h]; exact HIN.out⟩
            case measure => simp [strSize]; omega
        · have hf' : folB l t = false := by simpa using hf
          have HV2 := Lib.hid (show validL (l ++ [(t, u)]) = false from by rw [HVS.out]; exact hf')
          have HF := Lib.hid hf'
          clear hf hf'
          go_wp2_with fail
          refine (follows_c l (by omega) HV.out t u w.heap.size _ T2.trc).mono ?_
          rintro e w2 ⟨rfl, hb2⟩
          rw [HF.out]
          replace T2 := T2.next hb2
          go_wp2_with fail
          go_ret3
          exact ⟨l, r.data.toList, HS.out, HI.out, HV.out, .inr ⟨HE.out, by rw [HRR.out]; exact stuck_after HV2.out, rfl⟩, T2.below⟩
end Go.Proofs.YtgdaekjodhebfaaDoor
