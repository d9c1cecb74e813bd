/-
  The two Count.
-/
import Derived.Test.YtabfjiapoafgaaaDoorVal
import Derived.Test.YtabfjiapoafgaaaDoorSch
namespace Go.Proofs.YtabfjiapoafgaaaDoor
open Go.RowKit
set_option linter.unusedVariables false
attribute [local go_sem ↓] Go.wp_at_zero Go.wp_at_succ

theorem cntI_t {f m : Nat} (hm : m ≤ 1073741824) : cntI f m = (cntN f m : Int) := by
  unfold cntI
  rw [if_pos ⟨by omega, by omega, by omega⟩]
  rfl
theorem cntI_f {f m : Int} (h : ¬ (0 ≤ f ∧ (0 ≤ m ∧ m ≤ 1073741824))) : cntI f m = 0 := if_neg h
/-- a power too great -/
theorem cnt_big {f m j P : Nat} (hP : P = (m + 1) ^ j) (h : 4611686018427387904 / (m + 1) < P) (hj : j < f) : cntN f m = 4611686018427387904 := by
  unfold cntN totalN
  refine offN_sat (j := j + 1) ?_ (by omega)
  have h1 : 4611686018427387904 < P * (m + 1) := (Nat.div_lt_iff_lt_mul (by omega)).1 h
  show _ ≤ offN (m + 1) (j + 1) + (m + 1) ^ (j + 1)
  rw [Nat.pow_succ, ← hP]
  omega
theorem cnt_sum {f m j S : Nat} (hS : S = offN (m + 1) (j + 1)) (h : 4611686018427387904 ≤ S) (hj : j ≤ f) : cntN f m = 4611686018427387904 := by
  unfold cntN totalN
  exact offN_sat (j := j) (by omega) hj
theorem cnt_end {f m S : Nat} (hS : S = offN (m + 1) (f + 1)) (h : S < 4611686018427387904) : cntN f m = S := by
  unfold cntN totalN
  omega
theorem mul_le_of {P b : Nat} (hb : 0 < b) (h : ¬ 4611686018427387904 / b < P) : P * b ≤ 4611686018427387904 := by
  have h1 : P ≤ 4611686018427387904 / b := by omega
  exact (Nat.le_div_iff_mul_le hb).1 h1
set_option maxRecDepth 100000 in
set_option maxHeartbeats 2000000 in
theorem count_c (f m : Int) (hf : f ≤ 1000) (w : World) : Calls Tryd.prog 26 #[.int .i64 f, .int .i64 m] w fun e w' => e = .returned (.int .i64 (cntI f m)) ∧ Below w.heap.size w w' := by
  by_cases hf0 : f < 0
  · have HC := Lib.hid (cntI_f (f := f) (m := m) (by omega))
    go_enter Tryd.func26, Tryd.ntmps26
    go_wp2_with fail
    go_ret
    exact ⟨ret_int HC.out.symm, Below.refl _ _⟩
  · by_cases hm : 0 ≤ m ∧ m ≤ 1073741824
    · have HV := Lib.hid (show validP (m, 1) = true from validP_iff.2 ⟨hm, (by decide : (1 : Int) ≤ 1 ∧ (1 : Int) ≤ 1099511627776)⟩)
      obtain ⟨f, rfl⟩ := Int.eq_ofNat_of_zero_le (show 0 ≤ f by omega)
      obtain ⟨m, rfl⟩ := Int.eq_ofNat_of_zero_le hm.1
      obtain ⟨hm0, hm1⟩ := hm
      have hm2 : m ≤ 1073741824 := by omega
      have HC := Lib.hid (cntI_t (f := f) hm2)
      have hmw : IntKind.i64.wrap ((m : Int) + 1) = (m : Int) + 1 := IntWalk.i64_in _ (by omega)
      go_enter Tryd.func26, Tryd.ntmps26
      go_wp2_with fail
      refine (valid_c (m : Int) 1 _).mono ?_
      rintro e w1 ⟨rfl, hb1⟩
      rw [HV.out]
      have HB1 := Lib.hid hb1
      clear hb1
      go_wp2_with fail
      go_loopw [5, 6, 16] (fun s p i wr => ∃ j P S : Nat, j ≤ f ∧ i = .int .i64 j ∧ p = .int .i64 P ∧ s = .int .i64 S ∧ P = (m + 1) ^ j ∧ S = offN (m + 1) (j + 1) ∧ S < 4611686018427387904 ∧ P ≤ 4611686018427387904 ∧ Below w.heap.size w wr) (fun _ _ i _ => f - (intOf i).toNat)
      case atStart => exact ⟨0, 1, 1, by omega, rfl, rfl, rfl, rfl, by simp [offN], by omega, by omega, HB1.out⟩
      case round =>
        obtain ⟨j, P, S, hj, rfl, rfl, rfl, hP, hS, hs, hp, hbr⟩ := hrel
        have HP := Lib.hid hP
        have HS := Lib.hid hS
        have HB := Lib.hid hbr
        clear hP hS hbr
        by_cases hlt : j < f
        · have hd : ((4611686018427387904 : Int) / ((m : Int) + 1)) = ((4611686018427387904 / (m + 1) : Nat) : Int) := by rw [Int.natCast_ediv]; rfl
          by_cases hbig : 4611686018427387904 / (m + 1) < P
          · have HE := Lib.hid (cnt_big HP.out hbig hlt)
            have hbI : (4611686018427387904 : Int) / ((m : Int) + 1) < (P : Int) := by rw [hd]; omega
            clear hd hbig
            go_wp2_with fail
            go_ret
            exact ⟨ret_int (by rw [HC.out, HE.out]; rfl), HB.out⟩
          · have hbI : ¬ (4611686018427387904 : Int) / ((m : Int) + 1) < (P : Int) := by rw [hd]; omega
            have hml := mul_le_of (by omega) hbig
            obtain ⟨Q, hQ⟩ : ∃ Q, Q = P * (m + 1) := ⟨_, rfl⟩
            rw [← hQ] at hml
            have HQ := Lib.hid (show Q = (m + 1) ^ (j + 1) from by rw [hQ, Nat.pow_succ, ← HP.out])
            have hqI : (P : Int) * ((m : Int) + 1) = (Q : Int) := by rw [hQ]; push_cast; rfl
            have hw : IntKind.i64.wrap ((P : Int) * ((m : Int) + 1)) = (Q : Int) := by rw [hqI]; exact IntWalk.i64_in _ (by omega)
            have HT := Lib.hid (show S + Q = offN (m + 1) (j + 1 + 1) from by rw [HQ.out, HS.out]; rfl)
            clear hd hbig hQ
            by_cases hsum : 4611686018427387904 ≤ S + Q
            · have HE := Lib.hid (cnt_sum HT.out hsum hlt)
              have hsI : (4611686018427387904 : Int) ≤ (S : Int) + (Q : Int) := by omega
              go_wp2_with fail
              go_ret
              exact ⟨ret_int (by rw [HC.out, HE.out]; rfl), HB.out⟩
            · have hsI : ¬ (4611686018427387904 : Int) ≤ (S : Int) + (Q : Int) := by omega
              go_wp2_with fail
              go_roundw
              case rel => exact ⟨j + 1, Q, S + Q, hlt, by go_num, rfl, by go_num, HQ.out, HT.out, by omega, hml, HB.out⟩
              case measure => simp [intOf]; omega
        · obtain rfl : j = f := by omega
          have HE := Lib.hid (cnt_end HS.out hs)
          go_wp2_with fail
          go_ret
          exact ⟨ret_int (by rw [HC.out, HE.out]), HB.out⟩
    · have hv : validP (m, 1) = false := validP_ff (by omega)
      have HC := Lib.hid (cntI_f (f := f) (m := m) (by omega))
      go_enter Tryd.func26, Tryd.ntmps26
      go_wp2_with fail
      refine (valid_c m 1 _).mono ?_
      rintro e w1 ⟨rfl, hb1⟩
      rw [hv]
      go_wp2_with fail
      go_ret
      exact ⟨ret_int HC.out.symm, hb1⟩
theorem cnt_big_r {f m k S P : Nat} (hS : S = offN (m + 1) k) (hP : P = min 4611686018427387904 ((m + 1) ^ k)) (h : 4611686018427387904 ≤ S + P) (hk : k ≤ f) : cntN f m = 4611686018427387904 := by
  unfold cntN totalN
  refine offN_sat (j := k) ?_ hk
  show _ ≤ offN (m + 1) k + (m + 1) ^ k
  omega
theorem pow_sat {m k P : Nat} (hP : P = (m + 1) ^ k) : (4611686018427387904 / (m + 1) < P → 4611686018427387904 = min 4611686018427387904 ((m + 1) ^ (k + 1))) ∧ (¬ 4611686018427387904 / (m + 1) < P → P * (m + 1) = min 4611686018427387904 ((m + 1) ^ (k + 1))) := by
  rw [Nat.pow_succ, ← hP]
  constructor
  · intro h
    have := (Nat.div_lt_iff_lt_mul (show 0 < m + 1 by omega)).1 h
    omega
  · intro h
    have := mul_le_of (show 0 < m + 1 by omega) h
    omega
set_option maxRecDepth 100000 in
set_option maxHeartbeats 2000000 in
theorem rcount_c (f m : Int) (hf : f ≤ 1000) (w : World) : Calls Tryd.prog 27 #[.int .i64 f, .int .i64 m] w fun e w' => e = .returned (.int .i64 (cntI f m)) ∧ Below w.heap.size w w' := by
  by_cases hf0 : f < 0
  · have HC := Lib.hid (cntI_f (f := f) (m := m) (by omega))
    go_enter Tryd.func27, Tryd.ntmps27
    go_wp2_with fail
    go_ret
    exact ⟨ret_int HC.out.symm, Below.refl _ _⟩
  · by_cases hm0 : m < 0
    · have HC := Lib.hid (cntI_f (f := f) (m := m) (by omega))
      go_enter Tryd.func27, Tryd.ntmps27
      go_wp2_with fail
      go_ret
      exact ⟨ret_int HC.out.symm, Below.refl _ _⟩
    · by_cases hm1 : 1073741824 < m
      · have HC := Lib.hid (cntI_f (f := f) (m := m) (by omega))
        go_enter Tryd.func27, Tryd.ntmps27
        go_wp2_with fail
        go_ret
        exact ⟨ret_int HC.out.symm, Below.refl _ _⟩
      · obtain ⟨f, rfl⟩ := Int.eq_ofNat_of_zero_le (show 0 ≤ f by omega)
        obtain ⟨m, rfl⟩ := Int.eq_ofNat_of_zero_le (show 0 ≤ m by omega)
        have hm2 : m ≤ 1073741824 := by omega
        have HC := Lib.hid (cntI_t (f := f) hm2)
        go_enter Tryd.func27, Tryd.ntmps27
        go_wp2_with fail
        go_loopw [6, 7, 8] (fun s p i wr => ∃ k P S : Nat, k ≤ f + 1 ∧ i = .int .i64 k ∧ p = .int .i64 P ∧ s = .int .i64 S ∧ P = min 4611686018427387904 ((m + 1) ^ k) ∧ S = offN (m + 1) k ∧ S < 4611686018427387904 ∧ P ≤ 4611686018427387904 ∧ (m = 0 → k = 0) ∧ wr = w) (fun _ _ i _ => f + 1 - (intOf i).toNat)
        case atStart => exact ⟨0, 1, 0, by omega, rfl, rfl, rfl, by simp, rfl, by omega, by omega, fun _ => rfl, rfl⟩
        case round =>
          obtain ⟨k, P, S, hk, rfl, rfl, rfl, hP, hS, hs, hp, hm00, rfl⟩ := hrel
          have HP := Lib.hid hP
          have HS := Lib.hid hS
          have HM := Lib.hid hm00
          clear hP hS hm00
          by_cases hlt : k ≤ f
          · have hltI : (k : Int) ≤ (f : Int) := by omega
            by_cases hsat : 4611686018427387904 ≤ S + P
            · have HE := Lib.hid (cnt_big_r HS.out HP.out hsat hlt)
              have hsI : (4611686018427387904 : Int) - (S : Int) ≤ (P : Int) := by omega
              go_wp2_with fail
              go_ret
              exact ⟨ret_int (by rw [HC.out, HE.out]; rfl), Below.refl _ _⟩
            · have hsI : ¬ (4611686018427387904 : Int) - (S : Int) ≤ (P : Int) := by omega
              have HPP := Lib.hid (show P = (m + 1) ^ k from by have := HP.out; omega)
              have HT := Lib.hid (show S + P = offN (m + 1) (k + 1) from by rw [HPP.out, HS.out]; rfl)
              by_cases hmz : m = 0
              · have hmI : ((m : Int) == 0) = true := by simpa using hmz
                have hk0 := HM.out hmz
                have HE := Lib.hid (show cntN f m = min (f + 1) 4611686018427387904 from by rw [hmz]; exact cntN_zero f)
                have hfI : ¬ (4611686018427387903 : Int) ≤ (f : Int) := by omega
                clear hmz
                go_wp2_with fail
                go_ret
                exact ⟨ret_int (by rw [HC.out, HE.out]; omega), Below.refl _ _⟩
              · have hmI : ((m : Int) == 0) = false := by simpa using hmz
                have hd : ((4611686018427387904 : Int) / ((m : Int) + 1)) = ((4611686018427387904 / (m + 1) : Nat) : Int) := by rw [Int.natCast_ediv]; rfl
                obtain ⟨g1, g2⟩ := pow_sat HPP.out
                have HMZ := Lib.hid hmz
                clear hmz
                by_cases hbig : 4611686018427387904 / (m + 1) < P
                · have HQ := Lib.hid (g1 hbig)
                  have hbI : (4611686018427387904 : Int) / ((m : Int) + 1) < (P : Int) := by rw [hd]; omega
                  clear hd hbig g1 g2
                  go_wp2_with fail
                  go_roundw
                  case rel => exact ⟨k + 1, 4611686018427387904, S + P, by omega, by go_num, rfl, by go_num, HQ.out, HT.out, by omega, by omega, fun h => absurd h HMZ.out, trivial⟩
                  case measure => simp [intOf]; omega
                · have hbI : ¬ (4611686018427387904 : Int) / ((m : Int) + 1) < (P : Int) := by rw [hd]; omega
                  have hml := mul_le_of (by omega) hbig
                  have hg := g2 hbig
                  obtain ⟨Q, hQ⟩ : ∃ Q, Q = P * (m + 1) := ⟨_, rfl⟩
                  rw [← hQ] at hml hg
                  have HQ := Lib.hid hg
                  have hqI : (P : Int) * ((m : Int) + 1) = (Q : Int) := by rw [hQ]; push_cast; rfl
                  have hw : IntKind.i64.wrap ((P : Int) * ((m : Int) + 1)) = (Q : Int) := by rw [hqI]; exact IntWalk.i64_in _ (by omega)
                  clear hd hbig g1 g2 hQ hg
                  go_wp2_with fail
                  go_roundw
                  case rel => exact ⟨k + 1, Q, S + P, by omega, by go_num, rfl, by go_num, HQ.out, HT.out, by omega, hml, fun h => absurd h HMZ.out, trivial⟩
                  case measure => simp [intOf]; omega
          · obtain rfl : k = f + 1 := by omega
            have hltI : ¬ ((f + 1 : Nat) : Int) ≤ (f : Int) := by omega
            have HE := Lib.hid (cnt_end HS.out hs)
            go_wp2_with fail
            go_ret
            exact ⟨ret_int (by rw [HC.out, HE.out]), Below.refl _ _⟩
end Go.Proofs.YtabfjiapoafgaaaDoor
