/-
  Traces: follows, after, At, Next, Changes.
-/
import Derived.Test.YtgdaekjodhebfaaDoorRef
namespace Go.Proofs.YtgdaekjodhebfaaDoor
open Go.RowKit

/-- a trace in memory -/
structure Trc (w : World) (tp : Nat) (l : List (Int × Int)) : Prop where
  lt : tp < w.heap.size
  is : ∃ A cap, w.cell? ⟨tp, 0, none⟩ = some (.slice A l.length cap) ∧ l.length ≤ cap ∧ Chs w A l
theorem Trc.next {w w1 : World} {tp : Nat} {l : List (Int × Int)} (h : Trc w tp l) (hb : Below w.heap.size w w1) : Trc w1 tp l := by
  obtain ⟨A, cap, h1, h2, h3⟩ := h.is
  exact ⟨Nat.lt_of_lt_of_le h.lt hb.size, A, cap, ((bcell hb).1 tp 0 h.lt).trans h1, h2, h3.next hb⟩
theorem cmp_c (t v x : Int) (w : World) : Calls Tryd.prog 37 #[.agg #[.int .i64 t, .int .i16 v], .int .i64 x] w fun e w' => e = .returned (.int .i64 (Lib.compareInt t x)) ∧ Below w.heap.size w w' := by
  go_enter Tryd.func37, Tryd.ntmps37
  go_wp2_with fail
  refine (Tryd.cmp_Compare_int t x _).mono ?_
  rintro e w1 ⟨rfl, rfl⟩
  go_wp2_with fail
  go_ret
  exact ⟨rfl, ba w _⟩
/-- how many changes are before a time; whether one is at it -/
structure Srch (l : List (Int × Int)) (t : Int) (r : Nat) : Prop where
  le : r ≤ l.length
  lo : ∀ i (h : i < l.length), i < r → l[i].1 < t
  hi : ∀ i (h : i < l.length), r ≤ i → t ≤ l[i].1
def SearchP (l : List (Int × Int)) (t : Int) (w : World) (e : Ending) (w' : World) : Prop := ∃ r : Nat, Srch l t r ∧ e = .returned (.tuple #[.int .i64 r, .bool (if h : r < l.length then decide (l[r].1 = t) else false)]) ∧ Below w.heap.size w w'
theorem cmp_lt {x y : Int} (h : x < y) : Lib.compareInt x y = -1 := by unfold Lib.compareInt; simp [h]
theorem cmp_ge {x y : Int} (h : ¬ x < y) : 0 ≤ Lib.compareInt x y := by unfold Lib.compareInt; simp [h]; split <;> decide
theorem cmp_eq {x y : Int} (h : y ≤ x) : Lib.compareInt x y = 0 ↔ x = y := by
  unfold Lib.compareInt
  rw [if_neg (by omega)]
  split <;> simp <;> omega
set_option maxRecDepth 100000 in
set_option maxHeartbeats 1000000 in
theorem search_c (l : List (Int × Int)) (hl : l.length ≤ 1000) (hv : validL l = true) (t : Int) (A : Option Addr) (cap : Nat) (w : World) (C : Chs w A l) : Calls Tryd.prog 36 #[.slice A l.length cap, .int .i64 t, .func (.func 37) #[] #[]] w (SearchP l t w) := by
  have HC := Lib.hid C
  have hl3 : (l.length : Int) ≤ 1000 := by omega
  clear C
  go_enter Tryd.func36, Tryd.ntmps36
  go_wp2_with fail
  go_loopw [9, 10] (fun i j wr => ∃ a b : Nat, a ≤ b ∧ b ≤ l.length ∧ i = .int .i64 a ∧ j = .int .i64 b ∧ (∀ i (h : i < l.length), i < a → l[i].1 < t) ∧ (∀ i (h : i < l.length), b ≤ i → t ≤ l[i].1) ∧ Below w.heap.size w wr) (fun i j _ => (intOf j).toNat - (intOf i).toNat)
  case atStart => exact ⟨0, l.length, by omega, by omega, rfl, rfl, fun i h h2 => by omega, fun i h h2 => by omega, Below.refl _ _⟩
  case round =>
    obtain ⟨a, b, hab, hbl, rfl, rfl, hlo, hhi, hbr⟩ := hrel
    have HLO := Lib.hid hlo
    have HHI := Lib.hid hhi
    have HB := Lib.hid hbr
    clear hlo hhi
    by_cases hlt : a < b
    · have ha0 : (0 : Int) ≤ (a : Int) := by omega
      have hb1 : (b : Int) ≤ 1000 := by omega
      have hm : (a + b) / 2 < l.length := by omega
      obtain ⟨ad, rfl, had, c0, c1⟩ := (HC.out.next hbr).at_ ((a + b) / 2) _ (List.getElem?_eq_getElem hm)
      rw [← add_of_add, add_one] at c1
      have hm1 : ((a : Int) + (b : Int)) / 2 < (l.length : Int) := by omega
      have hm0 : (0 : Int) ≤ ((a : Int) + (b : Int)) / 2 := by omega
      obtain ⟨x, hx⟩ : ∃ x, l[(a + b) / 2] = x := ⟨_, rfl⟩
      rw [hx] at c0 c1
      have HL := Lib.hid (show ∀ i (h : i < l.length), i < (a + b) / 2 → l[i].1 < x.1 from fun i h h2 => by rw [← hx]; exact sorted_at hv h2 hm)
      have HH := Lib.hid (show ∀ i (h : i < l.length), (a + b) / 2 < i → x.1 < l[i].1 from fun i h h2 => by rw [← hx]; exact sorted_at hv h2 h)
      have HXE := Lib.hid hx
      clear hx
      obtain ⟨tx, vx⟩ := x
      by_cases hlt2 : tx < t
      · have HC2 := Lib.hid (cmp_lt hlt2)
        have HT := Lib.hid hlt2
        clear hbr hlt2
        go_wp2_with fail
        refine (cmp_c tx vx t _).mono ?_
        rintro e w1 ⟨rfl, hb1⟩
        rw [HC2.out]
        go_wp2_with fail
        go_roundw
        case rel =>
          refine ⟨(a + b) / 2 + 1, b, by omega, hbl, by go_num, rfl, fun i h h2 => ?_, HHI.out, bt HB.out hb1⟩
          by_cases e : i = (a + b) / 2
          · subst e; rw [HXE.out]; exact HT.out
          · have := HL.out i h (by omega); have := HT.out; simp at *; omega
        case measure => simp [intOf]; omega
      · have HC2 := Lib.hid (cmp_ge hlt2)
        have HT := Lib.hid hlt2
        clear hbr hlt2
        go_wp2_with fail
        refine (cmp_c tx vx t _).mono ?_
        rintro e w1 ⟨rfl, hb1⟩
        have hc := HC2.out
        generalize Lib.compareInt tx t = c at *
        go_wp2_with fail
        go_roundw
        case rel =>
          refine ⟨a, (a + b) / 2, by omega, by omega, rfl, by go_num, HLO.out, fun i h h2 => ?_, bt HB.out hb1⟩
          by_cases e : i = (a + b) / 2
          · subst e; rw [HXE.out]; have := HT.out; simp at *; omega
          · have := HH.out i h (by omega); have := HT.out; simp at *; omega
        case measure => simp [intOf]; omega
    · obtain rfl : a = b := by omega
      have HS := Lib.hid (show Srch l t a from ⟨hbl, HLO.out, HHI.out⟩)
      by_cases hlt2 : a < l.length
      · obtain ⟨ad, rfl, had, c0, c1⟩ := (HC.out.next hbr).at_ a _ (List.getElem?_eq_getElem hlt2)
        rw [← add_of_add, add_one] at c1
        have hge := HHI.out a hlt2 (Nat.le_refl _)
        have HR := Lib.hid (show (if h : a < l.length then decide (l[a].1 = t) else false) = decide (Lib.compareInt l[a].1 t = 0) from by
          rw [dif_pos hlt2, decide_eq_decide]; exact (cmp_eq hge).symm)
        have ha1 : (a : Int) < (l.length : Int) := by omega
        generalize l[a] = x at *
        obtain ⟨tx, vx⟩ := x
        clear hbr hge
        go_wp2_with fail
        refine (cmp_c tx vx t _).mono ?_
        rintro e w1 ⟨rfl, hb1⟩
        go_wp2_with fail
        go_ret2
        exact ⟨a, HS.out, by rw [HR.out]; rfl, bt HB.out hb1⟩
      · have HR := Lib.hid (show (if h : a < l.length then decide (l[a].1 = t) else false) = false from by rw [dif_neg hlt2])
        clear hbr
        go_wp2_with fail
        go_ret2
        exact ⟨a, HS.out, by rw [HR.out]; rfl, HB.out⟩
theorem srch_cnt {l : List (Int × Int)} (hv : validL l = true) {t : Int} {r : Nat} (h : Srch l t r) : Cnt l t (if (if h : r < l.length then decide (l[r].1 = t) else false) = true then r + 1 else r) := by
  have h1 := h.le
  by_cases hr : r < l.length
  · rw [dif_pos hr]
    have hge := h.hi r hr (Nat.le_refl _)
    by_cases he : l[r].1 = t
    · rw [if_pos (by simpa using he)]
      refine ⟨by omega, fun i hi h2 => ?_, fun i hi h2 => ?_⟩
      · by_cases e : i = r
        · subst e; omega
        · have := h.lo i hi (by omega); omega
      · have := sorted_at hv (show r < i by omega) hi; omega
    · rw [if_neg (by simpa using he)]
      refine ⟨by omega, fun i hi h2 => by have := h.lo i hi h2; omega, fun i hi h2 => ?_⟩
      by_cases e : i = r
      · subst e; omega
      · have := sorted_at hv (show r < i by omega) hi; omega
  · rw [dif_neg hr, if_neg (by simp)]
    exact ⟨h1, fun i hi h2 => by have := h.lo i hi h2; omega, fun i hi h2 => by omega⟩
def AfterP (l : List (Int × Int)) (t : Int) (w : World) (e : Ending) (w' : World) : Prop := ∃ r : Nat, Cnt l t r ∧ e = .returned (.int .i64 r) ∧ Below w.heap.size w w'
theorem after_c (l : List (Int × Int)) (hl : l.length ≤ 1000) (hv : validL l = true) (t : Int) (tp : Nat) (w : World) (T : Trc w tp l) : Calls Tryd.prog 26 #[.pointer (some ⟨tp, 0, none⟩), .int .i64 t] w (AfterP l t w) := by
  obtain ⟨A, cap, hc, -, C⟩ := T.is
  have HV := Lib.hid hv
  clear T hv
  go_enter Tryd.func26, Tryd.ntmps26
  go_wp2_with fail
  refine (search_c l hl HV.out t A cap _ C).mono ?_
  rintro e w1 ⟨r, hs, rfl, hb1⟩
  have HC := Lib.hid (srch_cnt HV.out hs)
  have hrl := hs.le
  clear hs
  generalize (if h : r < l.length then decide (l[r].1 = t) else false) = f at *
  cases f
  · go_wp2_with fail
    go_ret
    exact ⟨r, by simpa using HC.out, rfl, hb1⟩
  · go_wp2_with fail
    go_ret
    exact ⟨r + 1, by simpa using HC.out, by go_num, hb1⟩
theorem at_c (l : List (Int × Int)) (hl : l.length ≤ 1000) (hv : validL l = true) (t : Int) (tp : Nat) (w : World) (T : Trc w tp l) : Calls Tryd.prog 15 #[.pointer (some ⟨tp, 0, none⟩), .int .i64 t] w fun e w' => e = .returned (.int .i16 (atL l t)) ∧ Below w.heap.size w w' := by
  have HT := Lib.hid T
  have HV := Lib.hid hv
  clear T hv
  go_enter Tryd.func15, Tryd.ntmps15
  go_wp2_with fail
  refine (after_c l hl HV.out t tp _ HT.out).mono ?_
  rintro e w1 ⟨r, hs, rfl, hb1⟩
  have hrl := hs.le
  have HS := Lib.hid hs
  clear hs
  obtain ⟨A, cap, hc, -, C⟩ := (HT.out.next hb1).is
  by_cases h0 : 0 < r
  · have h1 : r - 1 < l.length := by omega
    obtain ⟨ad, rfl, had, c0, c1⟩ := C.at_ (r - 1) _ (List.getElem?_eq_getElem h1)
    rw [← add_of_add, add_one] at c1
    have HA2 := Lib.hid (show atL l t = (l[r - 1]).2 from by rw [HS.out.at_, dif_pos h0])
    have d0 : (0 : Int) < (r : Int) := by omega
    have d1 : (0 : Int) ≤ (r : Int) - 1 := by omega
    have d2 : (r : Int) - 1 < (l.length : Int) := by omega
    have d3 : (1 : Int) ≤ (r : Int) := by omega
    generalize l[r - 1] = x at *
    obtain ⟨tx, vx⟩ := x
    clear C h1
    go_wp2_with fail
    go_ret
    exact ⟨ret_int HA2.out.symm, hb1⟩
  · have HA2 := Lib.hid (show atL l t = 0 from by rw [HS.out.at_, dif_neg h0])
    have d0 : ¬ (0 : Int) < (r : Int) := by omega
    clear C
    go_wp2_with fail
    go_ret
    exact ⟨ret_int HA2.out.symm, hb1⟩
theorem next_c (l : List (Int × Int)) (hl : l.length ≤ 1000) (hv : validL l = true) (t : Int) (tp : Nat) (w : World) (T : Trc w tp l) : Calls Tryd.prog 12 #[.pointer (some ⟨tp, 0, none⟩), .int .i64 t] w fun e w' => e = .returned (optV (nextL l t)) ∧ Below w.heap.size w w' := by
  have HT := Lib.hid (T.next (ba w (.cells #[.int .i64 0, .int .i16 0] 29)))
  have HV := Lib.hid hv
  clear T hv
  go_enter Tryd.func12, Tryd.ntmps12
  go_wp2_with fail
  refine (after_c l hl HV.out t tp _ HT.out).mono ?_
  rintro e w1 ⟨r, hs, rfl, hb1⟩
  have hrl := hs.le
  have HN := Lib.hid hs.next
  clear hs
  obtain ⟨A, cap, hc, -, C⟩ := (HT.out.next hb1).is
  have n0 := ((bcell hb1).1 w.heap.size 0 (by simp)).trans (new_change w 0 0 29).1
  have n1 := ((bcell hb1).1 w.heap.size 1 (by simp)).trans (new_change w 0 0 29).2
  have f0 := ((bcell hb1).2 w.heap.size 0 (by simp)).trans (World.frozen?_alloc_at _ _ _ _ rfl)
  have f1 := ((bcell hb1).2 w.heap.size 1 (by simp)).trans (World.frozen?_alloc_at _ _ _ _ rfl)
  have kz : Below w.heap.size w w1 := bt (ba w _) hb1
  by_cases h1 : r < l.length
  · obtain ⟨ad, rfl, had, c0, c1⟩ := C.at_ r _ (List.getElem?_eq_getElem h1)
    rw [← add_of_add, add_one] at c1
    have HA2 := Lib.hid (show nextL l t = some l[r] from by rw [HN.out, List.getElem?_eq_getElem h1])
    have d2 : (r : Int) < (l.length : Int) := by omega
    generalize l[r] = x at *
    obtain ⟨tx, vx⟩ := x
    clear C
    go_wp2_with fail
    refine bodyPost_ret (v := .tuple #[.agg #[.int .i64 tx, .int .i16 vx], .bool true]) (by simp [results, Tryd.results12, go_sem, *]) rfl ⟨by rw [HA2.out]; rfl, ?_⟩
    repeat' first | exact kz | refine Below.setCell ?_ ?_ _ | (simp; done)
  · have HA2 := Lib.hid (show nextL l t = none from by rw [HN.out, List.getElem?_eq_none (by omega)])
    have d2 : ¬ (r : Int) < (l.length : Int) := by omega
    clear C
    go_wp2_with fail
    refine bodyPost_ret (v := .tuple #[.agg #[.int .i64 0, .int .i16 0], .bool false]) (by simp [results, Tryd.results12, go_sem, *]) rfl ⟨by rw [HA2.out]; rfl, ?_⟩
    repeat' first | exact kz | refine Below.setCell ?_ ?_ _ | (simp; done)
end Go.Proofs.YtgdaekjodhebfaaDoor
