/-
  The walks of WordArithmetic, WordDivision, WordUnary, WordBinary, WordIndex.
-/
import Derived.Test.YtllbjkcpiencfaaDoorExamples
import Derived.Outline
namespace Go.Proofs.YtllbjkcpiencfaaDoor
open Go.RowKit

theorem mul_bd (a b : Int) (ha0 : -32768 ≤ a) (ha1 : a ≤ 32767) (hb0 : -32768 ≤ b) (hb1 : b ≤ 32767) : -1073741824 ≤ a * b ∧ a * b ≤ 1073741824 := by
  have h : (a * b).natAbs ≤ 32768 * 32768 := by
    rw [Int.natAbs_mul]; exact Nat.mul_le_mul (by omega) (by omega)
  omega
theorem tdiv_bd (a b : Int) (ha0 : -32768 ≤ a) (ha1 : a ≤ 32767) : -32768 ≤ a.tdiv b ∧ a.tdiv b ≤ 32768 := by
  have h : (a.tdiv b).natAbs ≤ 32768 := by
    rw [Int.natAbs_tdiv]; exact Nat.le_trans (Nat.div_le_self _ _) (by omega)
  omega

theorem tmod_bd (a b : Int) (ha0 : -32768 ≤ a) (ha1 : a ≤ 32767) : -32768 ≤ a.tmod b ∧ a.tmod b ≤ 32767 := by
  have h : (a.tmod b).natAbs ≤ a.natAbs := by rw [Int.natAbs_tmod]; exact Nat.mod_le _ _
  by_cases h0 : 0 ≤ a
  · have h1 := Int.tmod_nonneg b h0
    omega
  · have h2 : a.tmod b = -((-a).tmod b) := by rw [Int.neg_tmod]; omega
    have h1 := Int.tmod_nonneg b (show 0 ≤ -a by omega)
    omega
theorem rem_eq (a b : Int) (ha0 : -32768 ≤ a) (ha1 : a ≤ 32767) : wrap64 (a - wrap64 (b * a.tdiv b)) = a.tmod b := by
  obtain ⟨t0, t1⟩ := tmod_bd a b ha0 ha1
  have h := Int.mul_tdiv_add_tmod a b
  have e1 : wrap64 (b * a.tdiv b) = b * a.tdiv b := IntWalk.wrap64_in _ ⟨by omega, by omega⟩
  rw [e1, IntWalk.wrap64_in _ ⟨by omega, by omega⟩]
  omega

set_option maxHeartbeats 1000000 in
theorem arith_w (a b : Int) (ha0 : -32768 ≤ a) (ha1 : a ≤ 32767) (hb0 : -32768 ≤ b) (hb1 : b ≤ 32767) (w : World) (hr : Ready w) :
    Calls Tryd.prog 3 #[.int .i16 a, .int .i16 b] w fun e w' => e = .returned (.bool true) ∧ Below w.heap.size w w' := by
  obtain ⟨m0, m1⟩ := mul_bd a b ha0 ha1 hb0 hb1
  obtain ⟨d0, d1⟩ := tdiv_bd a b ha0 ha1
  obtain ⟨t0, t1⟩ := tmod_bd a b ha0 ha1
  by_cases hb : b = 0
  · subst hb
    go_enter Tryd.func3, Tryd.ntmps3
    go_wp2_with (first | (go_at_call 11; refine (examples_c _ hr).mono ?_; rintro e w1 ⟨rfl, hb1⟩) | (go_at_call 13; refine (wrap_c _ (by omega) (by omega) _).mono ?_; rintro e w1 ⟨rfl, rfl⟩) | (go_at_call 12; go_in) | (go_at_call 14; go_in) | (go_at_call 15; go_in) | (go_at_call 16; go_in) | (go_at_call 17; go_in) | (go_at_call 18; go_in) | (go_at_call 19; go_in))
    go_ret
    exact ⟨rfl, hb1⟩
  · go_enter Tryd.func3, Tryd.ntmps3
    go_wp2_with (first | (go_at_call 11; refine (examples_c _ hr).mono ?_; rintro e w1 ⟨rfl, hb1⟩) | (go_at_call 13; refine (wrap_c _ (by omega) (by omega) _).mono ?_; rintro e w1 ⟨rfl, rfl⟩) | (go_at_call 12; go_in) | (go_at_call 14; go_in) | (go_at_call 15; go_in) | (go_at_call 16; go_in) | (go_at_call 17; go_in) | (go_at_call 18; go_in) | (go_at_call 19; go_in))
    rw [rem_eq a b ha0 ha1]
    refine (wrap_c _ (by omega) (by omega) _).mono ?_
    rintro e w2 ⟨rfl, rfl⟩
    rw [IntWalk.i16_in _ ⟨t0, t1⟩]
    go_wp2_with fail
    go_ret
    exact ⟨rfl, hb1⟩
end Go.Proofs.YtllbjkcpiencfaaDoor
