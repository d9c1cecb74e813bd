/-
  The fixed examples that each law of this layer checks first: they hold.
-/
import Derived.Test.YtllbjkcpiencfaaDoorParse
import Derived.Test.YtllbjkcpiencfaaDoorBytes
namespace Go.Proofs.YtllbjkcpiencfaaDoor
open Go.RowKit

theorem dec_step {u : Nat} (h : ¬ u < 10) : Lib.decDigits u = Lib.decDigits (u / 10) ++ [UInt8.ofNat (48 + u % 10)] := Dec.decDigits_big h
theorem itoa_min : (⟨#[45, 51, 50, 55, 54, 56]⟩ : ByteArray).data.toList = Lib.itoa (-32768) := by
  rw [Dec.itoa_neg (by decide), show (-32768 : Int).natAbs = 32768 from rfl, dec_step (by decide), dec_step (by decide), dec_step (by decide), dec_step (by decide), Dec.decDigits_small (by decide)]
  rfl
theorem itoa_120 : Lib.itoa (-120) = [45, 49, 50, 48] := by
  rw [Dec.itoa_neg (by decide), show (-120 : Int).natAbs = 120 from rfl, dec_step (by decide), dec_step (by decide), Dec.decDigits_small (by decide)]
  rfl
theorem not_minus0 (n : Int) (_ : -32768 ≤ n) (_ : n ≤ 32767) : (⟨#[45, 48]⟩ : ByteArray).data.toList ≠ Lib.itoa n := by
  intro h
  by_cases hn : n < 0
  · rw [Dec.itoa_neg hn] at h
    have h2 : [48] = Lib.decDigits n.natAbs := (List.cons.inj h).2
    have := Dec.val_decDigits n.natAbs
    rw [← h2, Dec.val_one] at this
    have e : (48 : UInt8).toNat = 48 := rfl
    omega
  · rw [Dec.itoa_nonneg (by omega)] at h
    have := Dec.decDigits_dig n.toNat 45 (by rw [← h]; simp)
    exact absurd this.1 (by decide)

set_option maxRecDepth 100000 in
set_option maxHeartbeats 2000000 in
theorem examples_c (w : World) (hr : Ready w) : Calls Tryd.prog 11 #[] w fun e w' => e = .returned (.bool true) ∧ Below w.heap.size w w' := by
  have k1 : IntKind.i16.wrap 32768 = -32768 := by decide
  have k2 : IntKind.i16.wrap (-32769) = 32767 := by decide
  have k3 : IntKind.i16.wrap 90000 = 24464 := by decide
  have k4 : IntKind.u16.wrap (-1) = 65535 := by decide
  have k5 : wrap64 65535 = 65535 := by unfold wrap64; decide
  have k6 : IntKind.u8.wrap (-2) = 254 := by decide
  have k7 : IntKind.u16.wrap (-2) = 65534 := by decide
  go_enter Tryd.func11, Tryd.ntmps11
  go_wp2_with (first | (go_at_call 22; go_in) | (go_at_call 20; go_in) | (go_at_call 12; go_in) | (go_at_call 14; go_in) | (go_at_call 15; go_in) | (go_at_call 16; go_in) | (go_at_call 18; go_in))
  refine (parse_yes (-32768) (by decide) (by decide) _ (by decide) itoa_min _ hr).mono ?_
  rintro e w1 ⟨rfl, hb1⟩
  have hr1 := hr.below hb1
  go_wp2_with (first | (go_at_call 22; go_in) | (go_at_call 20; go_in) | (go_at_call 12; go_in) | (go_at_call 14; go_in) | (go_at_call 15; go_in) | (go_at_call 16; go_in) | (go_at_call 18; go_in))
  refine (parse_no _ (by decide) not_minus0 _ hr1).mono ?_
  rintro e w2 ⟨rfl, hb2⟩
  have hr2 := hr1.below hb2
  go_wp2_with (first | (go_at_call 22; go_in) | (go_at_call 20; go_in) | (go_at_call 12; go_in) | (go_at_call 14; go_in) | (go_at_call 15; go_in) | (go_at_call 16; go_in) | (go_at_call 18; go_in))
  refine (put_c (-2) _).mono ?_
  rintro e w3 ⟨rfl, hb3⟩
  have hr3 := hr2.below hb3
  rw [show two (-2) = .agg #[.int .u8 254, .int .u8 255] from rfl]
  go_wp2_with (first | (go_at_call 22; go_in) | (go_at_call 20; go_in) | (go_at_call 12; go_in) | (go_at_call 14; go_in) | (go_at_call 15; go_in) | (go_at_call 16; go_in) | (go_at_call 18; go_in))
  refine (get_c 0 128 (by decide) (by decide) (by decide) (by decide) _).mono ?_
  rintro e w4 ⟨rfl, hb4⟩
  have hr4 := hr3.below hb4
  rw [show IntKind.i16.wrap (0 + 256 * 128) = -32768 from by decide]
  go_wp2_with (first | (go_at_call 22; go_in) | (go_at_call 20; go_in) | (go_at_call 12; go_in) | (go_at_call 14; go_in) | (go_at_call 15; go_in) | (go_at_call 16; go_in) | (go_at_call 18; go_in))
  refine (format_c (-120) (by decide) (by decide) _ hr4).mono ?_
  rintro e w5 ⟨rfl, hb5⟩
  rw [itoa_120]
  go_wp2_with fail
  go_ret
  exact ⟨rfl, hb1.trans ((hb2.trans ((hb3.trans ((hb4.trans (hb5.mono hb4.size)).mono hb3.size)).mono hb2.size)).mono hb1.size)⟩
end Go.Proofs.YtllbjkcpiencfaaDoor
