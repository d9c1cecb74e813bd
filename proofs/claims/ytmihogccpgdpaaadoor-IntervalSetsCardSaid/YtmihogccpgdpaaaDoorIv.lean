/-
  Small functions on intervals: what they return.
-/
import Derived.Test.YtmihogccpgdpaaaDoorBase
import Derived.Test.YtmihogccpgdpaaaDoorAid
import Derived.Outline
import Derived.Deep.RegionHeld3
import Derived.Deep.QuietTactic
import Derived.BigQuiet
namespace Go.Proofs.YtmihogccpgdpaaaDoor
open Go.RowKit

def vld (lo hi : Int) : Bool := decide (0 ≤ lo) && decide (lo ≤ hi) && decide (hi ≤ 1099511627776)
theorem vld_iff {lo hi : Int} : vld lo hi = true ↔ 0 ≤ lo ∧ lo ≤ hi ∧ hi ≤ 1099511627776 := by simp [vld, and_assoc]
theorem vld_yes {lo hi : Int} (h1 : 0 ≤ lo) (h2 : lo ≤ hi) (h3 : hi ≤ 1099511627776) : vld lo hi = true := vld_iff.2 ⟨h1, h2, h3⟩
theorem vld_no {lo hi : Int} (h : ¬ (0 ≤ lo ∧ lo ≤ hi ∧ hi ≤ 1099511627776)) : vld lo hi = false := by
  cases e : vld lo hi
  · rfl
  · exact absurd (vld_iff.1 e) h
abbrev iv (lo hi : Int) : Value := .agg #[.int .i64 lo, .int .i64 hi]

theorem valid_c (lo hi : Int) (w : World) : Calls Tryd.prog 14 #[iv lo hi] w fun e w' => e = .returned (.bool (vld lo hi)) ∧ Below w.heap.size w w' := by
  by_cases h1 : 0 ≤ lo
  · by_cases h2 : lo ≤ hi
    · by_cases h3 : hi ≤ 1099511627776
      · go_enter Tryd.func14, Tryd.ntmps14
        go_wp2_with fail
        go_ret
        exact ⟨ret_bool (by rw [vld_yes h1 h2 h3]), (Below.refl _ _).alloc (Nat.le_refl _) _⟩
      · go_enter Tryd.func14, Tryd.ntmps14
        go_wp2_with fail
        go_ret
        exact ⟨ret_bool (by rw [vld_no (by omega)]), (Below.refl _ _).alloc (Nat.le_refl _) _⟩
    · go_enter Tryd.func14, Tryd.ntmps14
      go_wp2_with fail
      go_ret
      exact ⟨ret_bool (by rw [vld_no (by omega)]), (Below.refl _ _).alloc (Nat.le_refl _) _⟩
  · go_enter Tryd.func14, Tryd.ntmps14
    go_wp2_with fail
    go_ret
    exact ⟨ret_bool (by rw [vld_no (by omega)]), (Below.refl _ _).alloc (Nat.le_refl _) _⟩

theorem most_c (w : World) : Calls Tryd.prog 32 #[] w fun e w' => e = .returned (.int .i64 1099511627776) ∧ w = w' := by
  go_enter Tryd.func32, Tryd.ntmps32
  go_wp2_with fail
  go_ret
  exact ⟨rfl, rfl⟩

def clamp (t : Int) : Int := if t < 0 then 0 else if t > 1099511627776 then 1099511627776 else t
theorem clamp_lo {t : Int} (h : t < 0) : clamp t = 0 := by unfold clamp; rw [if_pos h]
theorem clamp_hi {t : Int} (h : 1099511627776 < t) : clamp t = 1099511627776 := by unfold clamp; rw [if_neg (by omega), if_pos h]
theorem clamp_in {t : Int} (h : 0 ≤ t) (h2 : t ≤ 1099511627776) : clamp t = t := by unfold clamp; rw [if_neg (by omega), if_neg (by omega)]
theorem min_clamp {t : Int} (h : 0 ≤ t) : min t 1099511627776 = clamp t := by
  by_cases h2 : 1099511627776 < t
  · rw [clamp_hi h2]; omega
  · rw [clamp_in h (by omega)]; omega
theorem max_clamp {t : Int} (h : t ≤ 1099511627776) : max t 0 = clamp t := by
  by_cases h2 : t < 0
  · rw [clamp_lo h2]; omega
  · rw [clamp_in (by omega) h]; omega
theorem clamp_c (t : Int) (w : World) : Calls Tryd.prog 12 #[.int .i64 t] w fun e w' => e = .returned (.int .i64 (clamp t)) ∧ w = w' := by
  by_cases h1 : t < 0
  · go_enter Tryd.func12, Tryd.ntmps12
    go_wp2_with fail
    go_ret
    exact ⟨ret_int (by rw [clamp_lo h1]), rfl⟩
  · by_cases h2 : 1099511627776 < t
    · go_enter Tryd.func12, Tryd.ntmps12
      go_wp2_with (go_at_call 32; refine (most_c _).mono ?_; rintro e w1 ⟨rfl, rfl⟩)
      go_ret
      exact ⟨ret_int (by rw [clamp_hi h2]), rfl⟩
    · go_enter Tryd.func12, Tryd.ntmps12
      go_wp2_with (go_at_call 32; refine (most_c _).mono ?_; rintro e w1 ⟨rfl, rfl⟩)
      go_ret
      exact ⟨ret_int (by rw [clamp_in (by omega) (by omega)]), rfl⟩

theorem most_q (w : World) : Calls Tryd.prog 32 #[] w fun e w' => e = .returned (.int .i64 1099511627776) ∧ w' = w := (most_c w).mono fun _ _ ⟨h, e⟩ => ⟨h, e.symm⟩

theorem rvalid_c (lo hi : Int) (w : World) : Calls Tryd.prog 15 #[iv lo hi] w fun e w' => e = .returned (.bool (vld lo hi)) ∧ Below w.heap.size w w' := by
  by_cases h1 : 0 ≤ lo
  · have d1 : decide (0 ≤ lo) = true := by simpa using h1
    by_cases h2 : lo ≤ hi
    · have d2 : decide (lo ≤ hi) = true := by simpa using h2
      by_cases h3 : hi ≤ 1099511627776
      · have d3 : decide (hi ≤ 1099511627776) = true := by simpa using h3
        have hv := Lib.hid (vld_yes h1 h2 h3)
        go_enter Tryd.func15, Tryd.ntmps15
        go_wp2_with fail
        go_quiet ((go_at_call 32; exact Calls.quiet_of_same (most_q _)))
        go_wp2_with fail
        go_ret
        exact ⟨ret_bool (by rw [hv.out]), bdn (ba _ _) _⟩
      · have d3 : decide (hi ≤ 1099511627776) = false := by simpa using h3
        have hv := Lib.hid (vld_no (lo := lo) (hi := hi) (by omega))
        go_enter Tryd.func15, Tryd.ntmps15
        go_wp2_with fail
        go_quiet ((go_at_call 32; exact Calls.quiet_of_same (most_q _)))
        go_wp2_with fail
        go_ret
        exact ⟨ret_bool (by rw [hv.out]), bdn (ba _ _) _⟩
    · have d2 : decide (lo ≤ hi) = false := by simpa using h2
      have hv := Lib.hid (vld_no (lo := lo) (hi := hi) (by omega))
      go_enter Tryd.func15, Tryd.ntmps15
      go_wp2_with fail
      go_quiet ((go_at_call 32; exact Calls.quiet_of_same (most_q _)))
      go_wp2_with fail
      go_ret
      exact ⟨ret_bool (by rw [hv.out]), bdn (ba _ _) _⟩
  · have d1 : decide (0 ≤ lo) = false := by simpa using h1
    have hv := Lib.hid (vld_no (lo := lo) (hi := hi) (by omega))
    go_enter Tryd.func15, Tryd.ntmps15
    go_wp2_with fail
    go_quiet ((go_at_call 32; exact Calls.quiet_of_same (most_q _)))
    go_wp2_with fail
    go_ret
    exact ⟨ret_bool (by rw [hv.out]), bdn (ba _ _) _⟩

end Go.Proofs.YtmihogccpgdpaaaDoor
