/-
  The walks of ISAValid, ISAEncode and ISADecode.
-/
import Derived.Test.YtpgjmegecfaijaaDoorWakes
namespace Go.Proofs.YtpgjmegecfaijaaDoor
open Go.RowKit

/-- what a law's walk knows: its argument's block -/
structure KC (w0 : World) (B : Nat) (op a b c m : Int) (w : World) : Prop where
  below : Below w0.heap.size w0 w
  cod : Cod B op a b c m w
theorem KC.next {w0 w w1 : World} {B : Nat} {op a b c m : Int} (h : KC w0 B op a b c m w) (hb : Below w.heap.size w w1) : KC w0 B op a b c m w1 := ⟨bt h.below hb, h.cod.next hb⟩
theorem valid_law (op a b c m : Int) (hm : -32768 ≤ m ∧ m ≤ 32767) (w : World) (hr : TabR w) : Calls Tryd.prog 3 #[code op a b c m] w fun e w' => e = .returned (.bool true) ∧ Below w.heap.size w w' := by
  go_enter Tryd.func3, Tryd.ntmps3
  go_wp2_with fail
  have C0 := Cod.new (w := w) op a b c m 24
  refine (wakes_c _ (hr.below (ba w _))).mono ?_
  rintro e w1 ⟨rfl, hb1⟩
  have K : KC w w.heap.size op a b c m w1 := ⟨bt (ba w _) hb1, C0.next hb1⟩
  clear hb1 C0
  go_wp2_with fail
  have K1 := K.next w1.drewB
  go_region_held3 (fun w' => w'.cell? ⟨w.heap.size, 0, none⟩ = some (.int .i64 op) ∧ w'.cell? ⟨w.heap.size, 1, none⟩ = some (.int .i64 a) ∧ w'.cell? ⟨w.heap.size, 2, none⟩ = some (.int .i64 b) ∧ w'.cell? ⟨w.heap.size, 3, none⟩ = some (.int .i64 c) ∧ w'.cell? ⟨w.heap.size, 4, none⟩ = some (.int .i16 m) ∧ KC w w.heap.size op a b c m w')
    (first | exact ⟨K1.cod.c0, K1.cod.c1, K1.cod.c2, K1.cod.c3, K1.cod.c4, K1⟩ | exact ⟨K.cod.c0, K.cod.c1, K.cod.c2, K.cod.c3, K.cod.c4, K⟩ | go_keep)
    (first | (go_at_call 12; (with_reducible refine (valid_c op a b c m hm _).mono ?_); rintro e w2 ⟨rfl, hb2⟩; replace K1 := K1.next hb2) | (go_at_call 13; (with_reducible refine (rvalid_c op a b c m hm _).mono ?_); rintro e w2 ⟨rfl, hb2⟩; replace K1 := K1.next hb2))
  all_goals go_wp2_with fail
  all_goals go_ret
  all_goals exact ⟨rfl, K1.below⟩

/-- what the statement of Encode asks of the round trip -/
theorem decV_enc {op a b c m : Int} (hm : -32768 ≤ m ∧ m ≤ 32767) (hv : vld op a b c m = true) : decV op (a + 16 * b) (encN op c m % 256) (encN op c m / 256) = .tuple #[code op a b c m, .int .i64 0] := by
  obtain ⟨ho, ⟨a0, a1⟩, ⟨b0, b1⟩, c0, c1⟩ := vld_bounds hv
  have e1 : (a + 16 * b) % 16 = a := by omega
  have e2 : (a + 16 * b) / 16 = b := by omega
  have key : decC op (encN op c m % 256) (encN op c m / 256) = c ∧ decM op (encN op c m % 256) (encN op c m / 256) = m := by
    have hv2 := hv
    rw [vld_eq ho] at hv2
    simp only [Bool.and_eq_true] at hv2
    obtain ⟨-, -, h2, h3⟩ := hv2
    by_cases h : (2 : Int) ∈ shp op.toNat
    · have hn3 : ¬(3 : Int) ∈ shp op.toNat := by
        intro h3; revert h h3
        have hs : shp op.toNat = [] ∨ shp op.toNat = [0] ∨ shp op.toNat = [0, 1] ∨ shp op.toNat = [0, 1, 2] ∨ shp op.toNat = [0, 3] ∨ shp op.toNat = [3] ∨ shp op.toNat = [0, 1, 3] := by unfold shp; split <;> simp
        rcases hs with e | e | e | e | e | e | e <;> rw [e] <;> simp
      have hm0 : m = 0 := by simpa [immR, hn3] using h3
      have hN : encN op c m = c := by unfold encN; rw [if_pos h]
      rw [hN]
      unfold decC decM
      rw [if_pos h, if_pos h]
      omega
    · have hc0 : c = 0 := by simpa [reg, h] using h2
      have hN : encN op c m = m % 65536 := by unfold encN; rw [if_neg h]
      rw [hN]
      unfold decC decM
      rw [if_neg h, if_neg h, wrap_i16]
      omega
  unfold decV decOk
  rw [e1, e2, key.1, key.2, if_pos hv]
/-- what the statement of Decode asks of the round trip -/
theorem enc_dec {x z u : Int} (hz : 0 ≤ z ∧ z ≤ 255) (hu : 0 ≤ u ∧ u ≤ 255) : encN x (decC x z u) (decM x z u) % 256 = z ∧ encN x (decC x z u) (decM x z u) / 256 = u := by
  unfold encN decC decM
  split
  · omega
  · rw [wrap_i16]; omega

theorem encode_yes (op a b c m : Int) (hm : -32768 ≤ m ∧ m ≤ 32767) (hv : vld op a b c m = true) (w : World) (hr : TabR w) : Calls Tryd.prog 4 #[code op a b c m] w fun e w' => e = .returned (.bool true) ∧ Below w.heap.size w w' := by
  have HV := Lib.hid hv
  have HD := Lib.hid (decV_enc hm hv)
  obtain ⟨⟨o0, o1⟩, ⟨a0, a1⟩, ⟨b0, b1⟩, cc0, cc1⟩ := vld_bounds hv
  have hN : 0 ≤ encN op c m ∧ encN op c m ≤ 65535 := by unfold encN; split <;> omega
  clear hv
  generalize hX : encN op c m % 256 = X at *
  generalize hY : encN op c m / 256 = Y at *
  have hX1 : 0 ≤ X ∧ X ≤ 255 := by omega
  have hY1 : 0 ≤ Y ∧ Y ≤ 255 := by omega
  generalize hZ : a + 16 * b = Z at *
  have hZ1 : 0 ≤ Z ∧ Z ≤ 255 := by omega
  have encc : ∀ W, Calls Tryd.prog 14 #[code op a b c m] W fun e w' => e = .returned (.tuple #[four op Z X Y, .int .i64 0]) ∧ Below W.heap.size W w' := by
    intro W; have := enc_ok op a b c m hm HV.out W; rw [hX, hY, hZ] at this; exact this
  have rencc : ∀ W, Calls Tryd.prog 15 #[code op a b c m] W fun e w' => e = .returned (.tuple #[four op Z X Y, .int .i64 0]) ∧ Below W.heap.size W w' := by
    intro W; have := renc_ok op a b c m hm HV.out W; rw [hX, hY, hZ] at this; exact this
  have HE := Lib.hid encc
  have HR := Lib.hid rencc
  clear encc rencc hX hY hZ hN
  go_enter Tryd.func4, Tryd.ntmps4
  go_wp2_with fail
  have C0 := Cod.new (w := w) op a b c m 24
  refine (wakes_c _ (hr.below (ba w _))).mono ?_
  rintro e w1 ⟨rfl, hb1⟩
  have K : KC w w.heap.size op a b c m w1 := ⟨bt (ba w _) hb1, C0.next hb1⟩
  clear hb1 C0
  obtain ⟨-, ⟨lt, c0, c1, c2, c3, c4, f0, f1, f2, f3, f4⟩⟩ := id K
  go_wp2_with fail
  refine (HE.out _).mono ?_
  rintro e w2 ⟨rfl, hb2⟩
  replace K := K.next hb2
  clear hb2 lt c0 c1 c2 c3 c4 f0 f1 f2 f3 f4
  obtain ⟨-, ⟨lt, c0, c1, c2, c3, c4, f0, f1, f2, f3, f4⟩⟩ := id K
  go_wp2_with fail
  have B2 := Byt.new (w := w2) op Z X Y 27
  replace K := K.next (ba w2 (.cells #[.int .u8 op, .int .u8 Z, .int .u8 X, .int .u8 Y] 27))
  refine (HR.out _).mono ?_
  rintro e w3 ⟨rfl, hb3⟩
  replace K := K.next hb3
  replace B2 := B2.next hb3
  clear hb3 lt c0 c1 c2 c3 c4 f0 f1 f2 f3 f4
  obtain ⟨-, ⟨lt, c0, c1, c2, c3, c4, f0, f1, f2, f3, f4⟩⟩ := id K
  obtain ⟨lt', d0, d1, d2, d3, g0, g1, g2, g3⟩ := id B2
  go_wp2_with fail
  replace K := K.next (ba w3 (.cells #[.int .u8 op, .int .u8 Z, .int .u8 X, .int .u8 Y] 27))
  refine (dec_c op Z X Y (by omega) hZ1 hX1 hY1 _).mono ?_
  rintro e w4 ⟨rfl, hb4⟩
  replace K := K.next hb4
  rw [HD.out]
  clear hb4 lt c0 c1 c2 c3 c4 f0 f1 f2 f3 f4 lt' d0 d1 d2 d3 g0 g1 g2 g3 B2
  obtain ⟨-, ⟨lt, c0, c1, c2, c3, c4, f0, f1, f2, f3, f4⟩⟩ := id K
  go_wp2_with fail
  go_ret
  exact ⟨rfl, bt K.below (ba w4 _)⟩
theorem encode_no (op a b c m : Int) (hm : -32768 ≤ m ∧ m ≤ 32767) (hv : vld op a b c m = false) (w : World) (hr : TabR w) : Calls Tryd.prog 4 #[code op a b c m] w fun e w' => e = .returned (.bool true) ∧ Below w.heap.size w w' := by
  have HV := Lib.hid hv
  clear hv
  go_enter Tryd.func4, Tryd.ntmps4
  go_wp2_with fail
  have C0 := Cod.new (w := w) op a b c m 24
  refine (wakes_c _ (hr.below (ba w _))).mono ?_
  rintro e w1 ⟨rfl, hb1⟩
  have K : KC w w.heap.size op a b c m w1 := ⟨bt (ba w _) hb1, C0.next hb1⟩
  clear hb1 C0
  obtain ⟨-, ⟨lt, c0, c1, c2, c3, c4, f0, f1, f2, f3, f4⟩⟩ := id K
  go_wp2_with fail
  refine (enc_no op a b c m hm HV.out _).mono ?_
  rintro e w2 ⟨rfl, hb2⟩
  replace K := K.next hb2
  clear hb2 lt c0 c1 c2 c3 c4 f0 f1 f2 f3 f4
  obtain ⟨-, ⟨lt, c0, c1, c2, c3, c4, f0, f1, f2, f3, f4⟩⟩ := id K
  go_wp2_with fail
  have B2 := Byt.new (w := w2) 0 0 0 0 27
  replace K := K.next (ba w2 (.cells #[.int .u8 0, .int .u8 0, .int .u8 0, .int .u8 0] 27))
  refine (renc_no op a b c m hm HV.out _).mono ?_
  rintro e w3 ⟨rfl, hb3⟩
  replace K := K.next hb3
  replace B2 := B2.next hb3
  clear hb3 lt c0 c1 c2 c3 c4 f0 f1 f2 f3 f4
  obtain ⟨-, ⟨lt, c0, c1, c2, c3, c4, f0, f1, f2, f3, f4⟩⟩ := id K
  obtain ⟨lt', d0, d1, d2, d3, g0, g1, g2, g3⟩ := id B2
  go_wp2_with fail
  replace K := K.next (ba w3 (.cells #[.int .u8 0, .int .u8 0, .int .u8 0, .int .u8 0] 27))
  refine (dec_c 0 0 0 0 (by decide) (by decide) (by decide) (by decide) _).mono ?_
  rintro e w4 ⟨rfl, hb4⟩
  replace K := K.next hb4
  rw [show decV 0 0 0 0 = .tuple #[code 0 0 0 0 0, .int .i64 2] from rfl]
  clear hb4 lt c0 c1 c2 c3 c4 f0 f1 f2 f3 f4 lt' d0 d1 d2 d3 g0 g1 g2 g3 B2
  obtain ⟨-, ⟨lt, c0, c1, c2, c3, c4, f0, f1, f2, f3, f4⟩⟩ := id K
  go_wp2_with fail
  go_ret
  exact ⟨rfl, bt K.below (ba w4 _)⟩
theorem encode_law (op a b c m : Int) (hm : -32768 ≤ m ∧ m ≤ 32767) (w : World) (hr : TabR w) : Calls Tryd.prog 4 #[code op a b c m] w fun e w' => e = .returned (.bool true) ∧ Below w.heap.size w w' := by
  cases hv : vld op a b c m
  · exact encode_no op a b c m hm hv w hr
  · exact encode_yes op a b c m hm hv w hr

/-- what a law's walk knows: its argument's block of four bytes -/
structure KB (w0 : World) (B : Nat) (x y z u : Int) (w : World) : Prop where
  below : Below w0.heap.size w0 w
  byt : Byt B x y z u w
theorem KB.next {w0 w w1 : World} {B : Nat} {x y z u : Int} (h : KB w0 B x y z u w) (hb : Below w.heap.size w w1) : KB w0 B x y z u w1 := ⟨bt h.below hb, h.byt.next hb⟩
theorem decode_yes (x y z u : Int) (hx : 0 ≤ x ∧ x ≤ 255) (hy : 0 ≤ y ∧ y ≤ 255) (hz : 0 ≤ z ∧ z ≤ 255) (hu : 0 ≤ u ∧ u ≤ 255) (hd : decOk x y z u = true) (w : World) (hr : TabR w) : Calls Tryd.prog 5 #[four x y z u] w fun e w' => e = .returned (.bool true) ∧ Below w.heap.size w w' := by
  have HD := Lib.hid (show decV x y z u = .tuple #[code x (y % 16) (y / 16) (decC x z u) (decM x z u), .int .i64 0] from by unfold decV; rw [if_pos hd])
  obtain ⟨hn1, hn2⟩ := enc_dec (x := x) hz hu
  have hM := decM_bd x z u
  unfold decOk at hd
  have e1 : y % 16 + 16 * (y / 16) = y := by omega
  generalize y % 16 = a at *
  generalize y / 16 = b at *
  generalize decC x z u = c at *
  generalize decM x z u = m at *
  have encc : ∀ W, Calls Tryd.prog 14 #[code x a b c m] W fun e w' => e = .returned (.tuple #[four x y z u, .int .i64 0]) ∧ Below W.heap.size W w' := by
    intro W; have := enc_ok x a b c m hM hd W; rw [hn1, hn2, e1] at this; exact this
  have HE := Lib.hid encc
  clear encc hn1 hn2 e1 hd
  go_enter Tryd.func5, Tryd.ntmps5
  go_wp2_with fail
  have C0 := Byt.new (w := w) x y z u 27
  refine (wakes_c _ (hr.below (ba w _))).mono ?_
  rintro e w1 ⟨rfl, hb1⟩
  have K : KB w w.heap.size x y z u w1 := ⟨bt (ba w _) hb1, C0.next hb1⟩
  clear hb1 C0
  obtain ⟨-, ⟨lt, c0, c1, c2, c3, f0, f1, f2, f3⟩⟩ := id K
  go_wp2_with fail
  refine (dec_c x y z u hx hy hz hu _).mono ?_
  rintro e w2 ⟨rfl, hb2⟩
  rw [HD.out]
  replace K := K.next hb2
  clear hb2 lt c0 c1 c2 c3 f0 f1 f2 f3
  obtain ⟨-, ⟨lt, c0, c1, c2, c3, f0, f1, f2, f3⟩⟩ := id K
  go_wp2_with fail
  have B2 := Cod.new (w := w2) x a b c m 24
  replace K := K.next (ba w2 (.cells #[.int .i64 x, .int .i64 a, .int .i64 b, .int .i64 c, .int .i16 m] 24))
  refine (rdec_c x y z u hx hy hz hu _).mono ?_
  rintro e w3 ⟨rfl, hb3⟩
  rw [HD.out]
  replace K := K.next hb3
  replace B2 := B2.next hb3
  clear hb3 lt c0 c1 c2 c3 f0 f1 f2 f3
  obtain ⟨-, ⟨lt, c0, c1, c2, c3, f0, f1, f2, f3⟩⟩ := id K
  obtain ⟨lt', d0, d1, d2, d3, d4, g0, g1, g2, g3, g4⟩ := id B2
  go_wp2_with fail
  replace K := K.next (ba w3 (.cells #[.int .i64 x, .int .i64 a, .int .i64 b, .int .i64 c, .int .i16 m] 24))
  refine (HE.out _).mono ?_
  rintro e w4 ⟨rfl, hb4⟩
  replace K := K.next hb4
  clear hb4 lt c0 c1 c2 c3 f0 f1 f2 f3 lt' d0 d1 d2 d3 d4 g0 g1 g2 g3 g4 B2
  obtain ⟨-, ⟨lt, c0, c1, c2, c3, f0, f1, f2, f3⟩⟩ := id K
  go_wp2_with fail
  go_ret
  exact ⟨rfl, bt K.below (ba w4 _)⟩
theorem decode_no (x y z u : Int) (hx : 0 ≤ x ∧ x ≤ 255) (hy : 0 ≤ y ∧ y ≤ 255) (hz : 0 ≤ z ∧ z ≤ 255) (hu : 0 ≤ u ∧ u ≤ 255) (hd : decOk x y z u = false) (w : World) (hr : TabR w) : Calls Tryd.prog 5 #[four x y z u] w fun e w' => e = .returned (.bool true) ∧ Below w.heap.size w w' := by
  have HD := Lib.hid (show decV x y z u = .tuple #[code 0 0 0 0 0, .int .i64 2] from by unfold decV; rw [if_neg (by rw [hd]; decide)])
  clear hd
  go_enter Tryd.func5, Tryd.ntmps5
  go_wp2_with fail
  have C0 := Byt.new (w := w) x y z u 27
  refine (wakes_c _ (hr.below (ba w _))).mono ?_
  rintro e w1 ⟨rfl, hb1⟩
  have K : KB w w.heap.size x y z u w1 := ⟨bt (ba w _) hb1, C0.next hb1⟩
  clear hb1 C0
  obtain ⟨-, ⟨lt, c0, c1, c2, c3, f0, f1, f2, f3⟩⟩ := id K
  go_wp2_with fail
  refine (dec_c x y z u hx hy hz hu _).mono ?_
  rintro e w2 ⟨rfl, hb2⟩
  rw [HD.out]
  replace K := K.next hb2
  clear hb2 lt c0 c1 c2 c3 f0 f1 f2 f3
  obtain ⟨-, ⟨lt, c0, c1, c2, c3, f0, f1, f2, f3⟩⟩ := id K
  go_wp2_with fail
  have B2 := Cod.new (w := w2) 0 0 0 0 0 24
  replace K := K.next (ba w2 (.cells #[.int .i64 0, .int .i64 0, .int .i64 0, .int .i64 0, .int .i16 0] 24))
  refine (rdec_c x y z u hx hy hz hu _).mono ?_
  rintro e w3 ⟨rfl, hb3⟩
  rw [HD.out]
  replace K := K.next hb3
  replace B2 := B2.next hb3
  clear hb3 lt c0 c1 c2 c3 f0 f1 f2 f3
  obtain ⟨-, ⟨lt, c0, c1, c2, c3, f0, f1, f2, f3⟩⟩ := id K
  obtain ⟨lt', d0, d1, d2, d3, d4, g0, g1, g2, g3, g4⟩ := id B2
  go_wp2_with fail
  replace K := K.next (ba w3 (.cells #[.int .i64 0, .int .i64 0, .int .i64 0, .int .i64 0, .int .i16 0] 24))
  refine (enc_no 0 0 0 0 0 (by decide) (by decide) _).mono ?_
  rintro e w4 ⟨rfl, hb4⟩
  replace K := K.next hb4
  clear hb4 lt c0 c1 c2 c3 f0 f1 f2 f3 lt' d0 d1 d2 d3 d4 g0 g1 g2 g3 g4 B2
  obtain ⟨-, ⟨lt, c0, c1, c2, c3, f0, f1, f2, f3⟩⟩ := id K
  go_wp2_with fail
  go_ret
  exact ⟨rfl, bt K.below (ba w4 _)⟩
theorem decode_law (x y z u : Int) (hx : 0 ≤ x ∧ x ≤ 255) (hy : 0 ≤ y ∧ y ≤ 255) (hz : 0 ≤ z ∧ z ≤ 255) (hu : 0 ≤ u ∧ u ≤ 255) (w : World) (hr : TabR w) : Calls Tryd.prog 5 #[four x y z u] w fun e w' => e = .returned (.bool true) ∧ Below w.heap.size w w' := by
  cases hd : decOk x y z u
  · exact decode_no x y z u hx hy hz hu hd w hr
  · exact decode_yes x y z u hx hy hz hu hd w hr
end Go.Proofs.YtpgjmegecfaijaaDoor
