/-
  Valid periods and schedules: valid, Right, and the two Valid.
-/
import Derived.Test.YtabfjiapoafgaaaDoorPer
import Derived.Test.YtabfjiapoafgaaaDoorTxp
namespace Go.Proofs.YtabfjiapoafgaaaDoor
open Go.RowKit
set_option linter.unusedVariables false
attribute [local go_sem ↓] Go.wp_at_zero Go.wp_at_succ

theorem validP_ff {a b : Int} (h : ¬ ((0 ≤ a ∧ a ≤ 1073741824) ∧ (1 ≤ b ∧ b ≤ 1099511627776))) : validP (a, b) = false := by unfold validP; rw [decide_eq_false_iff_not]; exact h
set_option maxRecDepth 100000 in
theorem valid_c (a b : Int) (w : World) : Calls Tryd.prog 37 #[.agg #[.int .i64 a, .int .i64 b]] w fun e w' => e = .returned (.bool (validP (a, b))) ∧ Below w.heap.size w w' := by
  by_cases h0 : 0 ≤ a
  · by_cases h1 : a ≤ 1073741824
    · by_cases h2 : 1 ≤ b
      · by_cases h3 : b ≤ 1099511627776
        · have H := Lib.hid (show validP (a, b) = true from validP_iff.2 ⟨⟨h0, h1⟩, h2, h3⟩)
          go_enter Tryd.func37, Tryd.ntmps37
          go_wp2_with fail
          go_ret
          exact ⟨ret_bool H.out.symm, ba w _⟩
        · have H := Lib.hid (show validP (a, b) = false from validP_ff (by omega))
          go_enter Tryd.func37, Tryd.ntmps37
          go_wp2_with fail
          go_ret
          exact ⟨ret_bool H.out.symm, ba w _⟩
      · have H := Lib.hid (show validP (a, b) = false from validP_ff (by omega))
        go_enter Tryd.func37, Tryd.ntmps37
        go_wp2_with fail
        go_ret
        exact ⟨ret_bool H.out.symm, ba w _⟩
    · have H := Lib.hid (show validP (a, b) = false from validP_ff (by omega))
      go_enter Tryd.func37, Tryd.ntmps37
      go_wp2_with fail
      go_ret
      exact ⟨ret_bool H.out.symm, ba w _⟩
  · have H := Lib.hid (show validP (a, b) = false from validP_ff (by omega))
    go_enter Tryd.func37, Tryd.ntmps37
    go_wp2_with fail
    go_ret
    exact ⟨ret_bool H.out.symm, ba w _⟩
set_option maxRecDepth 100000 in
theorem right_c (a b : Int) (w : World) : Calls Tryd.prog 38 #[.agg #[.int .i64 a, .int .i64 b]] w fun e w' => e = .returned (.bool (validP (a, b))) ∧ Below w.heap.size w w' := by
  by_cases h0 : 0 ≤ a
  · by_cases h1 : a ≤ 1073741824
    · by_cases h2 : 1 ≤ b
      · by_cases h3 : b ≤ 1099511627776
        · have H := Lib.hid (show validP (a, b) = true from validP_iff.2 ⟨⟨h0, h1⟩, h2, h3⟩)
          go_enter Tryd.func38, Tryd.ntmps38
          go_wp2_with fail
          go_ret
          exact ⟨ret_bool H.out.symm, ba w _⟩
        · have H := Lib.hid (show validP (a, b) = false from validP_ff (by omega))
          go_enter Tryd.func38, Tryd.ntmps38
          go_wp2_with fail
          go_ret
          exact ⟨ret_bool H.out.symm, ba w _⟩
      · have H := Lib.hid (show validP (a, b) = false from validP_ff (by omega))
        go_enter Tryd.func38, Tryd.ntmps38
        go_wp2_with fail
        go_ret
        exact ⟨ret_bool H.out.symm, ba w _⟩
    · have H := Lib.hid (show validP (a, b) = false from validP_ff (by omega))
      go_enter Tryd.func38, Tryd.ntmps38
      go_wp2_with fail
      go_ret
      exact ⟨ret_bool H.out.symm, ba w _⟩
  · have H := Lib.hid (show validP (a, b) = false from validP_ff (by omega))
    go_enter Tryd.func38, Tryd.ntmps38
    go_wp2_with fail
    go_ret
    exact ⟨ret_bool H.out.symm, ba w _⟩
set_option maxRecDepth 100000 in
theorem inv_c (a b : Int) (w : World) : Calls Tryd.prog 36 #[.agg #[.int .i64 a, .int .i64 b]] w fun e w' => e = .returned (.bool (!validP (a, b))) ∧ Below w.heap.size w w' := by
  go_enter Tryd.func36, Tryd.ntmps36
  go_wp2_with fail
  refine (valid_c a b _).mono ?_
  rintro e w1 ⟨rfl, hb1⟩
  go_wp2_with fail
  go_ret
  exact ⟨rfl, bt (ba w _) hb1⟩
/-- the first that is not valid -/
def IdxP (l : List (Int × Int)) (w : World) (e : Ending) (w' : World) : Prop := ∃ r : Int, e = .returned (.int .i64 r) ∧ decide (0 ≤ r) = !validL l ∧ Below w.heap.size w w'
set_option maxRecDepth 100000 in
set_option maxHeartbeats 1000000 in
theorem index_c (l : List (Int × Int)) (hl : (l.length : Int) ≤ 9223372036854775807) (A : Option Addr) (cap : Nat) (w : World) (C : Prs w A l) : Calls Tryd.prog 54 #[.slice A l.length cap, .func (.func 36) #[] #[]] w (IdxP l w) := by
  have HC := Lib.hid C
  clear C
  go_enter Tryd.func54, Tryd.ntmps54
  go_wp2_with fail
  go_loopw [8] (fun i wr => ∃ k : Nat, k ≤ l.length ∧ i = .int .i64 k ∧ validL (l.take k) = true ∧ Below w.heap.size w wr) (fun i _ => l.length - (intOf i).toNat)
  case atStart => exact ⟨0, by omega, rfl, rfl, Below.refl _ _⟩
  case round =>
    obtain ⟨k, hk, rfl, hv, hbr⟩ := hrel
    have HB := Lib.hid hbr
    have HV := Lib.hid hv
    by_cases hlt : k < l.length
    · obtain ⟨ad, rfl, had, c0, c1⟩ := (HC.out.next hbr).at_ k _ (List.getElem?_eq_getElem hlt)
      rw [← add_of_add, add_one] at c1
      have HT := Lib.hid (validL_take hlt)
      have HF := Lib.hid (fun h => validL_false hlt h)
      have hk0 : (0 : Int) ≤ (k : Int) := by omega
      generalize l[k] = x at *
      obtain ⟨a, b⟩ := x
      clear hbr hv
      go_wp2_with fail
      refine (inv_c a b _).mono ?_
      rintro e w1 ⟨rfl, hb1⟩
      cases hq : validP (a, b)
      · have HQ := Lib.hid hq
        go_wp2_with fail
        go_ret
        exact ⟨k, rfl, by rw [HF.out HQ.out]; simp, bt HB.out hb1⟩
      · have HQ := Lib.hid hq
        go_wp2_with fail
        go_roundw
        case rel => exact ⟨k + 1, by omega, by go_num, by rw [HT.out, HV.out, HQ.out]; rfl, bt HB.out hb1⟩
        case measure => simp [intOf]; omega
    · obtain rfl : k = l.length := by omega
      rw [List.take_length] at hv
      have HV2 := Lib.hid hv
      clear hv
      go_wp2_with fail
      go_ret
      exact ⟨-1, rfl, by rw [HV2.out]; rfl, hbr⟩
set_option maxRecDepth 100000 in
theorem contains_c (l : List (Int × Int)) (hl : (l.length : Int) ≤ 9223372036854775807) (A : Option Addr) (cap : Nat) (w : World) (C : Prs w A l) : Calls Tryd.prog 35 #[.slice A l.length cap, .func (.func 36) #[] #[]] w fun e w' => e = .returned (.bool (!validL l)) ∧ Below w.heap.size w w' := by
  go_enter Tryd.func35, Tryd.ntmps35
  go_wp2_with fail
  refine (index_c l hl A cap _ C).mono ?_
  rintro e w1 ⟨r, rfl, hr, hb1⟩
  have HR := Lib.hid hr
  clear hr
  go_wp2_with fail
  go_ret
  exact ⟨ret_bool HR.out, hb1⟩
set_option maxRecDepth 100000 in
theorem validS_c (l : List (Int × Int)) (hl : (l.length : Int) ≤ 9223372036854775807) (A : Option Addr) (cap : Nat) (w : World) (C : Prs w A l) : Calls Tryd.prog 14 #[.slice A l.length cap] w fun e w' => e = .returned (.bool (validL l)) ∧ Below w.heap.size w w' := by
  go_enter Tryd.func14, Tryd.ntmps14
  go_wp2_with fail
  refine (contains_c l hl A cap _ C).mono ?_
  rintro e w1 ⟨rfl, hb1⟩
  go_wp2_with fail
  go_ret
  exact ⟨ret_bool (by simp), hb1⟩
set_option maxRecDepth 100000 in
set_option maxHeartbeats 1000000 in
theorem rvalidS_c (l : List (Int × Int)) (hl : (l.length : Int) ≤ 9223372036854775807) (A : Option Addr) (cap : Nat) (w : World) (C : Prs w A l) : Calls Tryd.prog 15 #[.slice A l.length cap] w fun e w' => e = .returned (.bool (validL l)) ∧ Below w.heap.size w w' := by
  have HC := Lib.hid C
  clear C
  go_enter Tryd.func15, Tryd.ntmps15
  go_wp2_with fail
  go_loopw [3] (fun i wr => ∃ k : Nat, k ≤ l.length ∧ i = .int .i64 k ∧ validL (l.take k) = true ∧ Below w.heap.size w wr) (fun i _ => l.length - (intOf i).toNat)
  case atStart => exact ⟨0, by omega, rfl, rfl, Below.refl _ _⟩
  case round =>
    obtain ⟨k, hk, rfl, hv, hbr⟩ := hrel
    have HB := Lib.hid hbr
    have HV := Lib.hid hv
    by_cases hlt : k < l.length
    · obtain ⟨ad, rfl, had, c0, c1⟩ := (HC.out.next hbr).at_ k _ (List.getElem?_eq_getElem hlt)
      rw [← add_of_add, add_one] at c1
      have HT := Lib.hid (validL_take hlt)
      have HF := Lib.hid (fun h => validL_false hlt h)
      have hk0 : (0 : Int) ≤ (k : Int) := by omega
      generalize l[k] = x at *
      obtain ⟨a, b⟩ := x
      clear hbr hv
      go_wp2_with fail
      refine (right_c a b _).mono ?_
      rintro e w1 ⟨rfl, hb1⟩
      cases hq : validP (a, b)
      · have HQ := Lib.hid hq
        go_wp2_with fail
        go_ret
        exact ⟨ret_bool (HF.out HQ.out).symm, bt HB.out hb1⟩
      · have HQ := Lib.hid hq
        go_wp2_with fail
        go_roundw
        case rel => exact ⟨k + 1, by omega, by go_num, by rw [HT.out, HV.out, HQ.out]; rfl, bt HB.out hb1⟩
        case measure => simp [intOf]; omega
    · obtain rfl : k = l.length := by omega
      rw [List.take_length] at hv
      have HV2 := Lib.hid hv
      clear hv
      go_wp2_with fail
      go_ret
      exact ⟨ret_bool HV2.out.symm, hbr⟩
end Go.Proofs.YtabfjiapoafgaaaDoor
