/-
  The walk of WordDivision.
-/
import Derived.Test.YtllbjkcpiencfaaDoorArith
namespace Go.Proofs.YtllbjkcpiencfaaDoor
open Go.RowKit

theorem tmod_lt (a b : Int) (hb : b ≠ 0) : max (a.tmod b) (-a.tmod b) < max b (-b) := by
  have h : (a.tmod b).natAbs < b.natAbs := by rw [Int.natAbs_tmod]; exact Nat.mod_lt _ (by omega)
  omega
theorem tmod_sign (a b : Int) : (0 ≤ a → 0 ≤ a.tmod b) ∧ (a < 0 → a.tmod b ≤ 0) := by
  refine ⟨fun h => Int.tmod_nonneg b h, fun h => ?_⟩
  have h2 : a.tmod b = -((-a).tmod b) := by rw [Int.neg_tmod]; omega
  have h1 := Int.tmod_nonneg b (show 0 ≤ -a by omega)
  omega
theorem back (a b : Int) (ha0 : -32768 ≤ a) (ha1 : a ≤ 32767) (hb0 : -32768 ≤ b) (hb1 : b ≤ 32767) (hb : b ≠ 0) : IntKind.i16.wrap (IntKind.i16.wrap (IntKind.i16.wrap (a.tdiv b) * b) + a.tmod b) = a := by
  obtain ⟨t0, t1⟩ := tmod_bd a b ha0 ha1
  obtain ⟨d0, d1⟩ := tdiv_bd a b ha0 ha1
  have h := Int.mul_tdiv_add_tmod a b
  by_cases hq : a.tdiv b = 32768
  · have hn : (a.tdiv b).natAbs = a.natAbs / b.natAbs := Int.natAbs_tdiv a b
    rw [hq] at hn
    have hn' : a.natAbs / b.natAbs = 32768 := by rw [← hn]; rfl
    have hb' : b.natAbs = 1 := by
      have h1 := Nat.div_mul_le_self a.natAbs b.natAbs
      rw [hn'] at h1
      have : a.natAbs ≤ 32768 := by omega
      have : b.natAbs ≤ 1 := by
        rcases Nat.lt_or_ge b.natAbs 2 with h2 | h2
        · omega
        · have := Nat.mul_le_mul_left 32768 h2; omega
      omega
    have hbb : b = 1 ∨ b = -1 := by omega
    rcases hbb with rfl | rfl
    · simp at hq; omega
    · rw [hq] at h ⊢
      simp only [wrap_i16]
      omega
  · rw [IntWalk.i16_in (a.tdiv b) ⟨by omega, by omega⟩, Int.mul_comm (a.tdiv b) b]
    generalize b * a.tdiv b = x at *
    simp only [wrap_i16]
    omega

set_option maxHeartbeats 1000000 in
theorem division_w (a b : Int) (ha0 : -32768 ≤ a) (ha1 : a ≤ 32767) (hb0 : -32768 ≤ b) (hb1 : b ≤ 32767) (w : World) (hr : Ready w) :
    Calls Tryd.prog 9 #[.int .i16 a, .int .i16 b] w fun e w' => e = .returned (.bool true) ∧ Below w.heap.size w w' := by
  obtain ⟨t0, t1⟩ := tmod_bd a b ha0 ha1
  by_cases hb : b = 0
  · subst hb
    go_enter Tryd.func9, Tryd.ntmps9
    go_wp2_with (first | (go_at_call 12; go_in) | (go_at_call 15; go_in) | (go_at_call 16; go_in) | (go_at_call 18; go_in))
    refine (examples_c _ hr).mono ?_
    rintro e w1 ⟨rfl, hb1⟩
    have hr1 := hr.below hb1
    go_wp2_with (first | (go_at_call 12; go_in) | (go_at_call 15; go_in) | (go_at_call 16; go_in) | (go_at_call 18; go_in))
    refine (examples_c _ hr1).mono ?_
    rintro e w2 ⟨rfl, hb2⟩
    go_wp2_with (first | (go_at_call 12; go_in) | (go_at_call 15; go_in) | (go_at_call 16; go_in) | (go_at_call 18; go_in))
    go_ret
    exact ⟨rfl, hb1.trans (hb2.mono hb1.size)⟩
  · have f1 := back a b ha0 ha1 hb0 hb1 hb
    have f2 := tmod_lt a b hb
    have f3 : ¬ a.tmod b = 0 → decide (a.tmod b < 0) = decide (a < 0) := by
      obtain ⟨s1, s2⟩ := tmod_sign a b
      intro h
      rw [decide_eq_decide]
      omega
    have F3 := Lib.hid f3
    clear f3
    go_enter Tryd.func9, Tryd.ntmps9
    go_wp2_with (first | (go_at_call 12; go_in) | (go_at_call 15; go_in) | (go_at_call 16; go_in) | (go_at_call 18; go_in))
    refine (examples_c _ hr).mono ?_
    rintro e w1 ⟨rfl, hb1⟩
    go_wp2_with (first | (go_at_call 12; go_in) | (go_at_call 15; go_in) | (go_at_call 16; go_in) | (go_at_call 18; go_in))
    all_goals go_ret
    all_goals refine ⟨ret_bool ?_, hb1⟩
    all_goals first | rfl | (rw [F3.out (by assumption)]; simp)
end Go.Proofs.YtllbjkcpiencfaaDoor
