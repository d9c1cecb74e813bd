/-
  The example that every statement of the layer checks first.
-/
import Derived.Test.YtpgjmegecfaijaaDoorFmt
import Derived.Test.YtpgjmegecfaijaaDoorRDecd
namespace Go.Proofs.YtpgjmegecfaijaaDoor
open Go.RowKit

theorem fmt_no (op a b c m : Int) (hm : -32768 ≤ m ∧ m ≤ 32767) (hv : vld op a b c m = false) (w : World) : Calls Tryd.prog 31 #[code op a b c m] w fun e w' => e = .returned (.string ⟨#[]⟩) ∧ Below w.heap.size w w' := by
  have HV := Lib.hid hv
  clear hv
  go_enter Tryd.func31, Tryd.ntmps31
  go_wp2_with fail
  refine (valid_c op a b c m hm _).mono ?_
  rintro e w1 ⟨rfl, hb1⟩
  rw [HV.out]
  have k1 : Below w.heap.size w w1 := bt (ba w _) hb1
  go_wp2_with fail
  go_ret
  exact ⟨rfl, k1⟩

theorem fmt_ex : fmtS 15 1 0 0 2560 = ⟨#[115, 116, 111, 114, 101, 32, 114, 49, 44, 32, 50, 53, 54, 48]⟩ := by
  have h1 : Lib.itoa 1 = [49] := by rw [Dec.itoa_nonneg (by decide), Dec.decDigits_small (by decide)]; rfl
  have h2 : Lib.itoa 2560 = [50, 53, 54, 48] := by
    rw [Dec.itoa_nonneg (by decide), Dec.decDigits_big (by decide), Dec.decDigits_big (by decide), Dec.decDigits_big (by decide), Dec.decDigits_small (by decide)]; rfl
  have h3 : opTs 15 1 0 0 2560 = [⟨#[114]⟩ ++ ⟨(Lib.itoa 1).toArray⟩, ⟨(Lib.itoa 2560).toArray⟩] := rfl
  unfold fmtS fmtJ
  rw [h3, h1, h2]
  rfl
theorem dec_ex : decV 15 1 0 10 = .tuple #[code 15 1 0 0 2560, .int .i64 0] := by rfl
theorem vld_ex : vld 15 1 0 0 2560 = true := by decide
theorem encN_ex : encN 15 0 2560 = 2560 := by decide

theorem enc_e (w : World) : Calls Tryd.prog 14 #[code 15 1 0 0 2560] w fun e w' => e = .returned (.tuple #[four 15 1 0 10, .int .i64 0]) ∧ Below w.heap.size w w' :=
  (enc_ok 15 1 0 0 2560 (by decide) vld_ex w).mono fun _ _ ⟨he, hb⟩ => ⟨he.trans (by rw [encN_ex]; rfl), hb⟩
theorem dec_e (w : World) : Calls Tryd.prog 16 #[four 15 1 0 10] w fun e w' => e = .returned (.tuple #[code 15 1 0 0 2560, .int .i64 0]) ∧ Below w.heap.size w w' :=
  (dec_c 15 1 0 10 (by decide) (by decide) (by decide) (by decide) w).mono fun _ _ ⟨he, hb⟩ => ⟨he.trans (by rw [dec_ex]), hb⟩
theorem fmt_e (w : World) (hr : TabR w) : Calls Tryd.prog 31 #[code 15 1 0 0 2560] w fun e w' => e = .returned (.string ⟨#[115, 116, 111, 114, 101, 32, 114, 49, 44, 32, 50, 53, 54, 48]⟩) ∧ Below w.heap.size w w' :=
  (fmt_c 15 1 0 0 2560 (by decide) vld_ex w hr).mono fun _ _ ⟨he, hb⟩ => ⟨he.trans (by rw [fmt_ex]), hb⟩
theorem valid_e (w : World) : Calls Tryd.prog 12 #[code 15 1 0 0 2560] w fun e w' => e = .returned (.bool true) ∧ Below w.heap.size w w' :=
  (valid_c 15 1 0 0 2560 (by decide) w).mono fun _ _ ⟨he, hb⟩ => ⟨he.trans (by rw [vld_ex]), hb⟩

set_option maxRecDepth 100000 in
set_option maxHeartbeats 2000000 in
theorem wakes_c (w : World) (hr : TabR w) : Calls Tryd.prog 11 #[] w fun e w' => e = .returned (.bool true) ∧ Below w.heap.size w w' := by
  go_enter Tryd.func11, Tryd.ntmps11
  go_wp2_with fail
  have C0 := Cod.new (w := w) 15 1 0 0 2560 24
  refine (enc_e _).mono ?_
  rintro e w1 ⟨rfl, hb1⟩
  have k1 : Below w.heap.size w w1 := bt (ba w _) hb1
  have C1 := C0.next hb1
  clear hb1 C0
  go_wp2_with fail
  have B2 := Byt.new (w := w1) 15 1 0 10 27
  have C2 := C1.next (ba w1 (.cells #[.int .u8 15, .int .u8 1, .int .u8 0, .int .u8 10] 27))
  have k2 := bt k1 (ba w1 (.cells #[.int .u8 15, .int .u8 1, .int .u8 0, .int .u8 10] 27))
  refine (dec_e _).mono ?_
  rintro e w3 ⟨rfl, hb3⟩
  have B3 := B2.next hb3
  have C3 := C2.next hb3
  have k3 := bt k2 hb3
  clear hb3 B2 C2 C1 k1 k2
  have D3 := (Cod.new (w := w3) 15 1 0 0 2560 24)
  have C4 := C3.next (ba w3 (.cells #[.int .i64 15, .int .i64 1, .int .i64 0, .int .i64 0, .int .i16 2560] 24))
  have B4 := B3.next (ba w3 (.cells #[.int .i64 15, .int .i64 1, .int .i64 0, .int .i64 0, .int .i16 2560] 24))
  have k4 := bt k3 (ba w3 (.cells #[.int .i64 15, .int .i64 1, .int .i64 0, .int .i64 0, .int .i16 2560] 24))
  obtain ⟨lt, c0, c1, c2, c3, c4, f0, f1, f2, f3, f4⟩ := C3
  obtain ⟨lt', d0, d1, d2, d3, g0, g1, g2, g3⟩ := B3
  go_wp2_with fail
  refine (fmt_e _ (hr.below k4)).mono ?_
  rintro e w5 ⟨rfl, hb5⟩
  have C5 := C4.next hb5
  have k5 := bt k4 hb5
  clear hb5 C4 B4 k4 lt c0 c1 c2 c3 c4 f0 f1 f2 f3 f4 lt' d0 d1 d2 d3 g0 g1 g2 g3
  obtain ⟨lt, c0, c1, c2, c3, c4, f0, f1, f2, f3, f4⟩ := C5
  go_wp2_with fail
  refine (valid_e _).mono ?_
  rintro e w6 ⟨rfl, hb6⟩
  go_wp2_with fail
  go_ret
  exact ⟨rfl, bt k5 hb6⟩
end Go.Proofs.YtpgjmegecfaijaaDoor
