/-
  The walks of WordUnary, WordBinary, WordIndex.
-/
import Derived.Test.YtllbjkcpiencfaaDoorArith
namespace Go.Proofs.YtllbjkcpiencfaaDoor
open Go.RowKit

theorem unary_w (op a : Int) (ha0 : -32768 ≤ a) (ha1 : a ≤ 32767) (w : World) (hr : Ready w) :
    Calls Tryd.prog 10 #[.int .i64 op, .int .i16 a] w fun e w' => e = .returned (.bool true) ∧ Below w.heap.size w w' := by
  have k0 : IntKind.i16.wrap 0 = 0 := by decide
  have k1 : IntKind.i16.wrap 1 = 1 := by decide
  by_cases h1 : op = 1
  · subst h1
    go_enter Tryd.func10, Tryd.ntmps10
    go_wp2_with (first | (go_at_call 11; refine (examples_c _ hr).mono ?_; rintro e w1 ⟨rfl, hb1⟩) | (go_at_call 13; refine (wrap_c _ (by omega) (by omega) _).mono ?_; rintro e w1 ⟨rfl, rfl⟩) | (go_at_call 12; go_in) | (go_at_call 14; go_in) | (go_at_call 15; go_in) | (go_at_call 16; go_in) | (go_at_call 17; go_in) | (go_at_call 18; go_in) | (go_at_call 19; go_in) | (go_at_call 20; go_in) | (go_at_call 21; go_in) | (go_at_call 22; go_in) | (go_at_call 23; go_in) | (go_at_call 32; go_in) | (go_at_call 33; go_in) | (go_at_call 34; go_in) | (go_at_call 35; go_in))
    go_ret
    exact ⟨rfl, hb1⟩
  · by_cases h2 : op = 2
    · subst h2
      by_cases h : a = 0
      all_goals
        go_enter Tryd.func10, Tryd.ntmps10
        go_wp2_with (first | (go_at_call 11; refine (examples_c _ hr).mono ?_; rintro e w1 ⟨rfl, hb1⟩) | (go_at_call 13; refine (wrap_c _ (by omega) (by omega) _).mono ?_; rintro e w1 ⟨rfl, rfl⟩) | (go_at_call 12; go_in) | (go_at_call 14; go_in) | (go_at_call 15; go_in) | (go_at_call 16; go_in) | (go_at_call 17; go_in) | (go_at_call 18; go_in) | (go_at_call 19; go_in) | (go_at_call 20; go_in) | (go_at_call 21; go_in) | (go_at_call 22; go_in) | (go_at_call 23; go_in) | (go_at_call 32; go_in) | (go_at_call 33; go_in) | (go_at_call 34; go_in) | (go_at_call 35; go_in))
        go_ret
        exact ⟨rfl, hb1⟩
    · go_enter Tryd.func10, Tryd.ntmps10
      go_wp2_with (first | (go_at_call 11; refine (examples_c _ hr).mono ?_; rintro e w1 ⟨rfl, hb1⟩) | (go_at_call 13; refine (wrap_c _ (by omega) (by omega) _).mono ?_; rintro e w1 ⟨rfl, rfl⟩) | (go_at_call 12; go_in) | (go_at_call 14; go_in) | (go_at_call 15; go_in) | (go_at_call 16; go_in) | (go_at_call 17; go_in) | (go_at_call 18; go_in) | (go_at_call 19; go_in) | (go_at_call 20; go_in) | (go_at_call 21; go_in) | (go_at_call 22; go_in) | (go_at_call 23; go_in) | (go_at_call 32; go_in) | (go_at_call 33; go_in) | (go_at_call 34; go_in) | (go_at_call 35; go_in))
      go_ret
      exact ⟨rfl, hb1⟩

set_option maxHeartbeats 4000000 in
theorem binary_w (op a b : Int) (ha0 : -32768 ≤ a) (ha1 : a ≤ 32767) (hb0 : -32768 ≤ b) (hb1 : b ≤ 32767) (w : World) (hr : Ready w) :
    Calls Tryd.prog 4 #[.int .i64 op, .int .i16 a, .int .i16 b] w fun e w' => e = .returned (.bool true) ∧ Below w.heap.size w w' := by
  obtain ⟨m0, m1⟩ := mul_bd a b ha0 ha1 hb0 hb1
  obtain ⟨d0, d1⟩ := tdiv_bd a b ha0 ha1
  have k0 : IntKind.i16.wrap 0 = 0 := by decide
  have k1 : IntKind.i16.wrap 1 = 1 := by decide
  by_cases hop : 3 ≤ op ∧ op ≤ 13
  · obtain rfl | rfl | rfl | rfl | rfl | rfl | rfl | rfl | rfl | rfl | rfl : op = 3 ∨ op = 4 ∨ op = 5 ∨ op = 6 ∨ op = 7 ∨ op = 8 ∨ op = 9 ∨ op = 10 ∨ op = 11 ∨ op = 12 ∨ op = 13 := by omega
    · clear hop
      go_enter Tryd.func4, Tryd.ntmps4
      go_wp2_with (first | (go_at_call 11; refine (examples_c _ hr).mono ?_; rintro e w1 ⟨rfl, hb1⟩) | (go_at_call 13; refine (wrap_c _ (by omega) (by omega) _).mono ?_; rintro e w1 ⟨rfl, rfl⟩) | (go_at_call 12; go_in) | (go_at_call 14; go_in) | (go_at_call 15; go_in) | (go_at_call 16; go_in) | (go_at_call 17; go_in) | (go_at_call 18; go_in) | (go_at_call 19; go_in) | (go_at_call 20; go_in) | (go_at_call 21; go_in) | (go_at_call 22; go_in) | (go_at_call 23; go_in) | (go_at_call 32; go_in) | (go_at_call 33; go_in) | (go_at_call 34; go_in) | (go_at_call 35; go_in))
      go_ret
      exact ⟨rfl, hb1⟩
    · clear hop
      go_enter Tryd.func4, Tryd.ntmps4
      go_wp2_with (first | (go_at_call 11; refine (examples_c _ hr).mono ?_; rintro e w1 ⟨rfl, hb1⟩) | (go_at_call 13; refine (wrap_c _ (by omega) (by omega) _).mono ?_; rintro e w1 ⟨rfl, rfl⟩) | (go_at_call 12; go_in) | (go_at_call 14; go_in) | (go_at_call 15; go_in) | (go_at_call 16; go_in) | (go_at_call 17; go_in) | (go_at_call 18; go_in) | (go_at_call 19; go_in) | (go_at_call 20; go_in) | (go_at_call 21; go_in) | (go_at_call 22; go_in) | (go_at_call 23; go_in) | (go_at_call 32; go_in) | (go_at_call 33; go_in) | (go_at_call 34; go_in) | (go_at_call 35; go_in))
      go_ret
      exact ⟨rfl, hb1⟩
    · clear hop
      go_enter Tryd.func4, Tryd.ntmps4
      go_wp2_with (first | (go_at_call 11; refine (examples_c _ hr).mono ?_; rintro e w1 ⟨rfl, hb1⟩) | (go_at_call 13; refine (wrap_c _ (by omega) (by omega) _).mono ?_; rintro e w1 ⟨rfl, rfl⟩) | (go_at_call 12; go_in) | (go_at_call 14; go_in) | (go_at_call 15; go_in) | (go_at_call 16; go_in) | (go_at_call 17; go_in) | (go_at_call 18; go_in) | (go_at_call 19; go_in) | (go_at_call 20; go_in) | (go_at_call 21; go_in) | (go_at_call 22; go_in) | (go_at_call 23; go_in) | (go_at_call 32; go_in) | (go_at_call 33; go_in) | (go_at_call 34; go_in) | (go_at_call 35; go_in))
      go_ret
      exact ⟨rfl, hb1⟩
    · clear hop
      by_cases hb : b = 0
      · subst hb
        go_enter Tryd.func4, Tryd.ntmps4
        go_wp2_with (first | (go_at_call 11; refine (examples_c _ hr).mono ?_; rintro e w1 ⟨rfl, hb1⟩) | (go_at_call 13; refine (wrap_c _ (by omega) (by omega) _).mono ?_; rintro e w1 ⟨rfl, rfl⟩) | (go_at_call 12; go_in) | (go_at_call 14; go_in) | (go_at_call 15; go_in) | (go_at_call 16; go_in) | (go_at_call 17; go_in) | (go_at_call 18; go_in) | (go_at_call 19; go_in) | (go_at_call 20; go_in) | (go_at_call 21; go_in) | (go_at_call 22; go_in) | (go_at_call 23; go_in) | (go_at_call 32; go_in) | (go_at_call 33; go_in) | (go_at_call 34; go_in) | (go_at_call 35; go_in))
        go_ret
        exact ⟨rfl, hb1⟩
      · go_enter Tryd.func4, Tryd.ntmps4
        go_wp2_with (first | (go_at_call 11; refine (examples_c _ hr).mono ?_; rintro e w1 ⟨rfl, hb1⟩) | (go_at_call 13; refine (wrap_c _ (by omega) (by omega) _).mono ?_; rintro e w1 ⟨rfl, rfl⟩) | (go_at_call 12; go_in) | (go_at_call 14; go_in) | (go_at_call 15; go_in) | (go_at_call 16; go_in) | (go_at_call 17; go_in) | (go_at_call 18; go_in) | (go_at_call 19; go_in) | (go_at_call 20; go_in) | (go_at_call 21; go_in) | (go_at_call 22; go_in) | (go_at_call 23; go_in) | (go_at_call 32; go_in) | (go_at_call 33; go_in) | (go_at_call 34; go_in) | (go_at_call 35; go_in))
        go_ret
        exact ⟨rfl, hb1⟩
    · clear hop
      by_cases hb : b = 0
      · subst hb
        go_enter Tryd.func4, Tryd.ntmps4
        go_wp2_with (first | (go_at_call 11; refine (examples_c _ hr).mono ?_; rintro e w1 ⟨rfl, hb1⟩) | (go_at_call 13; refine (wrap_c _ (by omega) (by omega) _).mono ?_; rintro e w1 ⟨rfl, rfl⟩) | (go_at_call 12; go_in) | (go_at_call 14; go_in) | (go_at_call 15; go_in) | (go_at_call 16; go_in) | (go_at_call 17; go_in) | (go_at_call 18; go_in) | (go_at_call 19; go_in) | (go_at_call 20; go_in) | (go_at_call 21; go_in) | (go_at_call 22; go_in) | (go_at_call 23; go_in) | (go_at_call 32; go_in) | (go_at_call 33; go_in) | (go_at_call 34; go_in) | (go_at_call 35; go_in))
        go_ret
        exact ⟨rfl, hb1⟩
      · obtain ⟨t0, t1⟩ := tmod_bd a b ha0 ha1
        have hq := rem_eq a b ha0 ha1
        have ht := IntWalk.i16_in _ ⟨t0, t1⟩
        go_enter Tryd.func4, Tryd.ntmps4
        go_wp2_with (first | (go_at_call 11; refine (examples_c _ hr).mono ?_; rintro e w1 ⟨rfl, hb1⟩) | (go_at_call 13; refine (wrap_c _ (by omega) (by omega) _).mono ?_; rintro e w1 ⟨rfl, rfl⟩) | (go_at_call 12; go_in) | (go_at_call 14; go_in) | (go_at_call 15; go_in) | (go_at_call 16; go_in) | (go_at_call 17; go_in) | (go_at_call 18; go_in) | (go_at_call 19; go_in) | (go_at_call 20; go_in) | (go_at_call 21; go_in) | (go_at_call 22; go_in) | (go_at_call 23; go_in) | (go_at_call 32; go_in) | (go_at_call 33; go_in) | (go_at_call 34; go_in) | (go_at_call 35; go_in))
        go_ret
        exact ⟨rfl, hb1⟩
    · clear hop
      by_cases h : a = b
      all_goals
        go_enter Tryd.func4, Tryd.ntmps4
        go_wp2_with (first | (go_at_call 11; refine (examples_c _ hr).mono ?_; rintro e w1 ⟨rfl, hb1⟩) | (go_at_call 13; refine (wrap_c _ (by omega) (by omega) _).mono ?_; rintro e w1 ⟨rfl, rfl⟩) | (go_at_call 12; go_in) | (go_at_call 14; go_in) | (go_at_call 15; go_in) | (go_at_call 16; go_in) | (go_at_call 17; go_in) | (go_at_call 18; go_in) | (go_at_call 19; go_in) | (go_at_call 20; go_in) | (go_at_call 21; go_in) | (go_at_call 22; go_in) | (go_at_call 23; go_in) | (go_at_call 32; go_in) | (go_at_call 33; go_in) | (go_at_call 34; go_in) | (go_at_call 35; go_in))
        go_ret
        exact ⟨rfl, hb1⟩
    · clear hop
      by_cases h : a = b
      all_goals
        go_enter Tryd.func4, Tryd.ntmps4
        go_wp2_with (first | (go_at_call 11; refine (examples_c _ hr).mono ?_; rintro e w1 ⟨rfl, hb1⟩) | (go_at_call 13; refine (wrap_c _ (by omega) (by omega) _).mono ?_; rintro e w1 ⟨rfl, rfl⟩) | (go_at_call 12; go_in) | (go_at_call 14; go_in) | (go_at_call 15; go_in) | (go_at_call 16; go_in) | (go_at_call 17; go_in) | (go_at_call 18; go_in) | (go_at_call 19; go_in) | (go_at_call 20; go_in) | (go_at_call 21; go_in) | (go_at_call 22; go_in) | (go_at_call 23; go_in) | (go_at_call 32; go_in) | (go_at_call 33; go_in) | (go_at_call 34; go_in) | (go_at_call 35; go_in))
        go_ret
        exact ⟨rfl, hb1⟩
    · clear hop
      by_cases h : a < b
      all_goals
        go_enter Tryd.func4, Tryd.ntmps4
        go_wp2_with (first | (go_at_call 11; refine (examples_c _ hr).mono ?_; rintro e w1 ⟨rfl, hb1⟩) | (go_at_call 13; refine (wrap_c _ (by omega) (by omega) _).mono ?_; rintro e w1 ⟨rfl, rfl⟩) | (go_at_call 12; go_in) | (go_at_call 14; go_in) | (go_at_call 15; go_in) | (go_at_call 16; go_in) | (go_at_call 17; go_in) | (go_at_call 18; go_in) | (go_at_call 19; go_in) | (go_at_call 20; go_in) | (go_at_call 21; go_in) | (go_at_call 22; go_in) | (go_at_call 23; go_in) | (go_at_call 32; go_in) | (go_at_call 33; go_in) | (go_at_call 34; go_in) | (go_at_call 35; go_in))
        go_ret
        exact ⟨rfl, hb1⟩
    · clear hop
      by_cases h : a ≤ b
      all_goals
        go_enter Tryd.func4, Tryd.ntmps4
        go_wp2_with (first | (go_at_call 11; refine (examples_c _ hr).mono ?_; rintro e w1 ⟨rfl, hb1⟩) | (go_at_call 13; refine (wrap_c _ (by omega) (by omega) _).mono ?_; rintro e w1 ⟨rfl, rfl⟩) | (go_at_call 12; go_in) | (go_at_call 14; go_in) | (go_at_call 15; go_in) | (go_at_call 16; go_in) | (go_at_call 17; go_in) | (go_at_call 18; go_in) | (go_at_call 19; go_in) | (go_at_call 20; go_in) | (go_at_call 21; go_in) | (go_at_call 22; go_in) | (go_at_call 23; go_in) | (go_at_call 32; go_in) | (go_at_call 33; go_in) | (go_at_call 34; go_in) | (go_at_call 35; go_in))
        go_ret
        exact ⟨rfl, hb1⟩
    · clear hop
      by_cases h : b < a
      all_goals
        go_enter Tryd.func4, Tryd.ntmps4
        go_wp2_with (first | (go_at_call 11; refine (examples_c _ hr).mono ?_; rintro e w1 ⟨rfl, hb1⟩) | (go_at_call 13; refine (wrap_c _ (by omega) (by omega) _).mono ?_; rintro e w1 ⟨rfl, rfl⟩) | (go_at_call 12; go_in) | (go_at_call 14; go_in) | (go_at_call 15; go_in) | (go_at_call 16; go_in) | (go_at_call 17; go_in) | (go_at_call 18; go_in) | (go_at_call 19; go_in) | (go_at_call 20; go_in) | (go_at_call 21; go_in) | (go_at_call 22; go_in) | (go_at_call 23; go_in) | (go_at_call 32; go_in) | (go_at_call 33; go_in) | (go_at_call 34; go_in) | (go_at_call 35; go_in))
        go_ret
        exact ⟨rfl, hb1⟩
    · clear hop
      by_cases h : b ≤ a
      all_goals
        go_enter Tryd.func4, Tryd.ntmps4
        go_wp2_with (first | (go_at_call 11; refine (examples_c _ hr).mono ?_; rintro e w1 ⟨rfl, hb1⟩) | (go_at_call 13; refine (wrap_c _ (by omega) (by omega) _).mono ?_; rintro e w1 ⟨rfl, rfl⟩) | (go_at_call 12; go_in) | (go_at_call 14; go_in) | (go_at_call 15; go_in) | (go_at_call 16; go_in) | (go_at_call 17; go_in) | (go_at_call 18; go_in) | (go_at_call 19; go_in) | (go_at_call 20; go_in) | (go_at_call 21; go_in) | (go_at_call 22; go_in) | (go_at_call 23; go_in) | (go_at_call 32; go_in) | (go_at_call 33; go_in) | (go_at_call 34; go_in) | (go_at_call 35; go_in))
        go_ret
        exact ⟨rfl, hb1⟩
  · have o3 : ¬ op = 3 := by omega
    have o4 : ¬ op = 4 := by omega
    have o5 : ¬ op = 5 := by omega
    have o6 : ¬ op = 6 := by omega
    have o7 : ¬ op = 7 := by omega
    have o8 : ¬ op = 8 := by omega
    have o9 : ¬ op = 9 := by omega
    have o10 : ¬ op = 10 := by omega
    have o11 : ¬ op = 11 := by omega
    have o12 : ¬ op = 12 := by omega
    have o13 : ¬ op = 13 := by omega
    clear hop
    go_enter Tryd.func4, Tryd.ntmps4
    go_wp2_with (first | (go_at_call 11; refine (examples_c _ hr).mono ?_; rintro e w1 ⟨rfl, hb1⟩) | (go_at_call 13; refine (wrap_c _ (by omega) (by omega) _).mono ?_; rintro e w1 ⟨rfl, rfl⟩) | (go_at_call 12; go_in) | (go_at_call 14; go_in) | (go_at_call 15; go_in) | (go_at_call 16; go_in) | (go_at_call 17; go_in) | (go_at_call 18; go_in) | (go_at_call 19; go_in) | (go_at_call 20; go_in) | (go_at_call 21; go_in) | (go_at_call 22; go_in) | (go_at_call 23; go_in) | (go_at_call 32; go_in) | (go_at_call 33; go_in) | (go_at_call 34; go_in) | (go_at_call 35; go_in))
    go_ret
    exact ⟨rfl, hb1⟩

theorem index_w (i n : Int) (hi0 : -32768 ≤ i) (hi1 : i ≤ 32767) (hn0 : -9223372036854775808 ≤ n) (hn1 : n ≤ 9223372036854775807) (w : World) (hr : Ready w) :
    Calls Tryd.prog 5 #[.int .i16 i, .int .i64 n] w fun e w' => e = .returned (.bool true) ∧ Below w.heap.size w w' := by
  by_cases hn : n < 1
  · go_enter Tryd.func5, Tryd.ntmps5
    go_wp2_with (first | (go_at_call 11; refine (examples_c _ hr).mono ?_; rintro e w1 ⟨rfl, hb1⟩) | (go_at_call 13; refine (wrap_c _ (by omega) (by omega) _).mono ?_; rintro e w1 ⟨rfl, rfl⟩) | (go_at_call 12; go_in) | (go_at_call 14; go_in) | (go_at_call 15; go_in) | (go_at_call 16; go_in) | (go_at_call 17; go_in) | (go_at_call 18; go_in) | (go_at_call 19; go_in) | (go_at_call 20; go_in) | (go_at_call 21; go_in) | (go_at_call 22; go_in) | (go_at_call 23; go_in) | (go_at_call 32; go_in) | (go_at_call 33; go_in) | (go_at_call 34; go_in) | (go_at_call 35; go_in))
    go_ret
    exact ⟨rfl, hb1⟩
  · by_cases hi : i < 0
    · have e1 : (wrap64 (IntKind.u16.wrap i)).tmod n = (i + 65536) % n := by
        rw [wrap_u16, show i % 65536 = i + 65536 by omega, IntWalk.wrap64_in _ ⟨by omega, by omega⟩, tmod_nonneg (by omega)]
      have b0 : 0 ≤ (i + 65536) % n := Int.emod_nonneg _ (by omega)
      have b1 : (i + 65536) % n < n := Int.emod_lt_of_pos _ (by omega)
      go_enter Tryd.func5, Tryd.ntmps5
      go_wp2_with (first | (go_at_call 11; refine (examples_c _ hr).mono ?_; rintro e w1 ⟨rfl, hb1⟩) | (go_at_call 13; refine (wrap_c _ (by omega) (by omega) _).mono ?_; rintro e w1 ⟨rfl, rfl⟩) | (go_at_call 12; go_in) | (go_at_call 14; go_in) | (go_at_call 15; go_in) | (go_at_call 16; go_in) | (go_at_call 17; go_in) | (go_at_call 18; go_in) | (go_at_call 19; go_in) | (go_at_call 20; go_in) | (go_at_call 21; go_in) | (go_at_call 22; go_in) | (go_at_call 23; go_in) | (go_at_call 32; go_in) | (go_at_call 33; go_in) | (go_at_call 34; go_in) | (go_at_call 35; go_in))
      go_ret
      exact ⟨rfl, hb1⟩
    · have e1 : (wrap64 i).tmod n = i % n := by rw [IntWalk.wrap64_in _ ⟨by omega, by omega⟩, tmod_nonneg (by omega)]
      have b0 : 0 ≤ i % n := Int.emod_nonneg _ (by omega)
      have b1 : i % n < n := Int.emod_lt_of_pos _ (by omega)
      go_enter Tryd.func5, Tryd.ntmps5
      go_wp2_with (first | (go_at_call 11; refine (examples_c _ hr).mono ?_; rintro e w1 ⟨rfl, hb1⟩) | (go_at_call 13; refine (wrap_c _ (by omega) (by omega) _).mono ?_; rintro e w1 ⟨rfl, rfl⟩) | (go_at_call 12; go_in) | (go_at_call 14; go_in) | (go_at_call 15; go_in) | (go_at_call 16; go_in) | (go_at_call 17; go_in) | (go_at_call 18; go_in) | (go_at_call 19; go_in) | (go_at_call 20; go_in) | (go_at_call 21; go_in) | (go_at_call 22; go_in) | (go_at_call 23; go_in) | (go_at_call 32; go_in) | (go_at_call 33; go_in) | (go_at_call 34; go_in) | (go_at_call 35; go_in))
      go_ret
      exact ⟨rfl, hb1⟩
end Go.Proofs.YtllbjkcpiencfaaDoor
