/-
  Decode of trickleref11. Printed by gen_rdecd.py.
-/
import Derived.Test.YtpgjmegecfaijaaDoorDecd
namespace Go.Proofs.YtpgjmegecfaijaaDoor
open Go.RowKit

theorem Byt.off {B : Nat} {x y z u : Int} {w : World} (h : Byt B x y z u w) (b2 o : Nat) (v : Value) (hn : b2 ≠ B) : Byt B x y z u (w.setCell ⟨b2, o, none⟩ v) := by
  have k : ∀ o2, (w.setCell ⟨b2, o, none⟩ v).cell? ⟨B, o2, none⟩ = w.cell? ⟨B, o2, none⟩ := fun o2 => World.cell?_setCell_other _ _ _ _ (by intro e; simp at e <;> omega)
  have q : ∀ o2, (w.setCell ⟨b2, o, none⟩ v).frozen? ⟨B, o2, none⟩ = w.frozen? ⟨B, o2, none⟩ := fun o2 => by simp
  exact ⟨by simpa using h.lt, (k _).trans h.c0, (k _).trans h.c1, (k _).trans h.c2, (k _).trans h.c3, (q _).trans h.f0, (q _).trans h.f1, (q _).trans h.f2, (q _).trans h.f3⟩

set_option maxHeartbeats 4000000 in
theorem rdec_y (x y z u : Int) (h : (2 : Int) ∈ shp x.toNat) (hx : 0 ≤ x ∧ x ≤ 255) (hy : 0 ≤ y ∧ y ≤ 255) (hz : 0 ≤ z ∧ z ≤ 255) (hu : 0 ≤ u ∧ u ≤ 255) (w : World) : Calls Tryd.prog 17 #[four x y z u] w fun e w' => e = .returned (decV x y z u) ∧ Below w.heap.size w w' := by
  obtain ⟨hx0, hx1⟩ := hx
  obtain ⟨hy0, hy1⟩ := hy
  obtain ⟨hz0, hz1⟩ := hz
  obtain ⟨hu0, hu1⟩ := hu
  have HH := Lib.hid h
  clear h
  have hcomm : 256 * u = u * 256 := Int.mul_comm _ _
  have hb0 : 0 ≤ z + u * 256 := by omega
  have hb1 : z + u * 256 ≤ 65535 := by omega
  go_enter Tryd.func17, Tryd.ntmps17
  go_wp2_with fail
  have A0 := ((Byt.new (w := w) x y z u 27).next (ba _ (.cells #[.int .i64 0, .int .i64 0, .int .i64 0, .int .i64 0, .int .i16 0] 24))).next (ba _ (.cells #[.int .i64 x, .int .i64 (y % 16), .int .i64 (y / 16), .int .i64 0, .int .i16 0] 24))
  have R0 := (Cod.new (w := w.alloc (.cells #[.int .u8 x, .int .u8 y, .int .u8 z, .int .u8 u] 27)) 0 0 0 0 0 24).next (ba _ (.cells #[.int .i64 x, .int .i64 (y % 16), .int .i64 (y / 16), .int .i64 0, .int .i16 0] 24))
  have C0 := Cod.new (w := (w.alloc (.cells #[.int .u8 x, .int .u8 y, .int .u8 z, .int .u8 u] 27)).alloc (.cells #[.int .i64 0, .int .i64 0, .int .i64 0, .int .i64 0, .int .i16 0] 24)) x (y % 16) (y / 16) 0 0 24
  have k4 : Below w.heap.size w (((w.alloc (.cells #[.int .u8 x, .int .u8 y, .int .u8 z, .int .u8 u] 27)).alloc (.cells #[.int .i64 0, .int .i64 0, .int .i64 0, .int .i64 0, .int .i16 0] 24)).alloc (.cells #[.int .i64 x, .int .i64 (y % 16), .int .i64 (y / 16), .int .i64 0, .int .i16 0] 24)) := bt (bt (ba w _) (ba _ _)) (ba _ _)
  refine (shape_c x _).mono ?_
  rintro e w2 ⟨rfl, rfl⟩
  simp only [World.size_alloc] at R0 C0
  go_wp2_with fail
  generalize ((w.alloc (.cells #[.int .u8 x, .int .u8 y, .int .u8 z, .int .u8 u] 27)).alloc (.cells #[.int .i64 0, .int .i64 0, .int .i64 0, .int .i64 0, .int .i16 0] 24)).alloc (.cells #[.int .i64 x, .int .i64 (y % 16), .int .i64 (y / 16), .int .i64 0, .int .i16 0] 24) = w4 at *
  refine (has_2 x.toNat _).mono ?_
  rintro e w4 ⟨rfl, rfl⟩
  have h := HH.out
  · have HC := Lib.hid (show decC x z u = z + u * 256 from by unfold decC; rw [if_pos h])
    have HM := Lib.hid (show decM x z u = 0 from by unfold decM; rw [if_pos h])
    have hmb := decM_bd x z u
    rw [HM.out] at hmb
    have HMB := Lib.hid hmb
    clear hmb
    obtain ⟨lt, c0, c1, c2, c3, c4, f0, f1, f2, f3, f4⟩ := id C0
    go_wp2_with fail
    clear lt c0 c1 c2 c3 c4 f0 f1 f2 f3 f4
    have C5 : Cod (w.heap.size + 1 + 1) x (y % 16) (y / 16) (z + u * 256) (0) (w4.setCell ⟨w.heap.size + 1 + 1, 3, none⟩ (.int .i64 (z + u * 256))) := by simpa [setW] using C0.written (o := 2) (z + u * 256) (by simp)
    have R5 := R0.off (w.heap.size + 1 + 1) 3 (.int .i64 (z + u * 256)) (by omega)
    have k5 := Below.setCell k4 (p := ⟨w.heap.size + 1 + 1, 3, none⟩) (by simp; omega) (.int .i64 (z + u * 256))
    have A5 := A0.off (w.heap.size + 1 + 1) 3 (.int .i64 (z + u * 256)) (by omega)
    have HN := Lib.hid (show encN x (z + u * 256) (0) = z + u * 256 from by unfold encN; rw [if_pos h])
    generalize (w4.setCell ⟨w.heap.size + 1 + 1, 3, none⟩ (.int .i64 (z + u * 256))) = w5 at *
    cases hv : vld x (y % 16) (y / 16) (z + u * 256) (0)
    · have HV := Lib.hid (show decV x y z u = .tuple #[code 0 0 0 0 0, .int .i64 2] from by unfold decV decOk; rw [HC.out, HM.out, hv]; rfl)
      refine (renc_no x (y % 16) (y / 16) (z + u * 256) (0) HMB.out hv _).mono ?_
      rintro e w6 ⟨rfl, hb6⟩
      clear hv
      replace R5 := R5.next hb6
      have k6 := bt k5 hb6
      obtain ⟨lt', d0, d1, d2, d3, d4, g0, g1, g2, g3, g4⟩ := R5
      go_wp2_with fail
      refine bodyPost_ret (v := .tuple #[code 0 0 0 0 0, .int .i64 2]) (by simp [results, Tryd.results17, go_sem, *]) rfl ⟨ret_val HV.out.symm, ?_⟩
      repeat' first | with_reducible exact k6 | refine Below.setCell ?_ ?_ _ | refine Below.alloc ?_ ?_ _ | (simp; done) | (simp; omega)
    · have HV := Lib.hid (show decV x y z u = .tuple #[code x (y % 16) (y / 16) (z + u * 256) (0), .int .i64 0] from by unfold decV decOk; rw [HC.out, HM.out, hv]; rfl)
      refine (renc_ok x (y % 16) (y / 16) (z + u * 256) (0) HMB.out hv _).mono ?_
      rintro e w6 ⟨rfl, hb6⟩
      rw [HN.out, show y % 16 + 16 * (y / 16) = y from by omega, show (z + u * 256) % 256 = z from by omega, show (z + u * 256) / 256 = u from by omega]
      clear hv
      replace R5 := R5.next hb6
      replace C5 := C5.next hb6
      replace A5 := A5.next hb6
      have k6 := bt k5 hb6
      obtain ⟨lt, c0, c1, c2, c3, c4, f0, f1, f2, f3, f4⟩ := C5
      obtain ⟨lt', d0, d1, d2, d3, d4, g0, g1, g2, g3, g4⟩ := R5
      obtain ⟨lt'', e0, e1, e2, e3, h0, h1, h2, h3⟩ := A5
      go_wp2_with fail
      refine bodyPost_ret (v := .tuple #[code x (y % 16) (y / 16) (z + u * 256) (0), .int .i64 0]) (by simp [results, Tryd.results17, go_sem, *]) rfl ⟨ret_val HV.out.symm, ?_⟩
      repeat' first | with_reducible exact k6 | refine Below.setCell ?_ ?_ _ | refine Below.alloc ?_ ?_ _ | (simp; done) | (simp; omega)

set_option maxHeartbeats 4000000 in
theorem rdec_n (x y z u : Int) (h : ¬(2 : Int) ∈ shp x.toNat) (hx : 0 ≤ x ∧ x ≤ 255) (hy : 0 ≤ y ∧ y ≤ 255) (hz : 0 ≤ z ∧ z ≤ 255) (hu : 0 ≤ u ∧ u ≤ 255) (w : World) : Calls Tryd.prog 17 #[four x y z u] w fun e w' => e = .returned (decV x y z u) ∧ Below w.heap.size w w' := by
  obtain ⟨hx0, hx1⟩ := hx
  obtain ⟨hy0, hy1⟩ := hy
  obtain ⟨hz0, hz1⟩ := hz
  obtain ⟨hu0, hu1⟩ := hu
  have HH := Lib.hid h
  clear h
  have hcomm : 256 * u = u * 256 := Int.mul_comm _ _
  have hb0 : 0 ≤ z + u * 256 := by omega
  have hb1 : z + u * 256 ≤ 65535 := by omega
  go_enter Tryd.func17, Tryd.ntmps17
  go_wp2_with fail
  have A0 := ((Byt.new (w := w) x y z u 27).next (ba _ (.cells #[.int .i64 0, .int .i64 0, .int .i64 0, .int .i64 0, .int .i16 0] 24))).next (ba _ (.cells #[.int .i64 x, .int .i64 (y % 16), .int .i64 (y / 16), .int .i64 0, .int .i16 0] 24))
  have R0 := (Cod.new (w := w.alloc (.cells #[.int .u8 x, .int .u8 y, .int .u8 z, .int .u8 u] 27)) 0 0 0 0 0 24).next (ba _ (.cells #[.int .i64 x, .int .i64 (y % 16), .int .i64 (y / 16), .int .i64 0, .int .i16 0] 24))
  have C0 := Cod.new (w := (w.alloc (.cells #[.int .u8 x, .int .u8 y, .int .u8 z, .int .u8 u] 27)).alloc (.cells #[.int .i64 0, .int .i64 0, .int .i64 0, .int .i64 0, .int .i16 0] 24)) x (y % 16) (y / 16) 0 0 24
  have k4 : Below w.heap.size w (((w.alloc (.cells #[.int .u8 x, .int .u8 y, .int .u8 z, .int .u8 u] 27)).alloc (.cells #[.int .i64 0, .int .i64 0, .int .i64 0, .int .i64 0, .int .i16 0] 24)).alloc (.cells #[.int .i64 x, .int .i64 (y % 16), .int .i64 (y / 16), .int .i64 0, .int .i16 0] 24)) := bt (bt (ba w _) (ba _ _)) (ba _ _)
  refine (shape_c x _).mono ?_
  rintro e w2 ⟨rfl, rfl⟩
  simp only [World.size_alloc] at R0 C0
  go_wp2_with fail
  generalize ((w.alloc (.cells #[.int .u8 x, .int .u8 y, .int .u8 z, .int .u8 u] 27)).alloc (.cells #[.int .i64 0, .int .i64 0, .int .i64 0, .int .i64 0, .int .i16 0] 24)).alloc (.cells #[.int .i64 x, .int .i64 (y % 16), .int .i64 (y / 16), .int .i64 0, .int .i16 0] 24) = w4 at *
  refine (has_2 x.toNat _).mono ?_
  rintro e w4 ⟨rfl, rfl⟩
  have h := HH.out
  · have HC := Lib.hid (show decC x z u = 0 from by unfold decC; rw [if_neg h])
    have HM := Lib.hid (show decM x z u = IntKind.i16.wrap (z + u * 256) from by unfold decM; rw [if_neg h])
    have hmb := decM_bd x z u
    rw [HM.out] at hmb
    have HMB := Lib.hid hmb
    clear hmb
    obtain ⟨lt, c0, c1, c2, c3, c4, f0, f1, f2, f3, f4⟩ := id C0
    go_wp2_with fail
    clear lt c0 c1 c2 c3 c4 f0 f1 f2 f3 f4
    have C5 : Cod (w.heap.size + 1 + 1) x (y % 16) (y / 16) (0) (IntKind.i16.wrap (z + u * 256)) (w4.setCell ⟨w.heap.size + 1 + 1, 4, none⟩ (.int .i16 (IntKind.i16.wrap (z + u * 256)))) := by simpa [setW] using C0.written (o := 3) (z + u * 256) (by simp)
    have R5 := R0.off (w.heap.size + 1 + 1) 4 (.int .i16 (IntKind.i16.wrap (z + u * 256))) (by omega)
    have k5 := Below.setCell k4 (p := ⟨w.heap.size + 1 + 1, 4, none⟩) (by simp; omega) (.int .i16 (IntKind.i16.wrap (z + u * 256)))
    have A5 := A0.off (w.heap.size + 1 + 1) 4 (.int .i16 (IntKind.i16.wrap (z + u * 256))) (by omega)
    have HN := Lib.hid (show encN x (0) (IntKind.i16.wrap (z + u * 256)) = z + u * 256 from by unfold encN; rw [if_neg h]; rw [wrap_i16]; omega)
    generalize (w4.setCell ⟨w.heap.size + 1 + 1, 4, none⟩ (.int .i16 (IntKind.i16.wrap (z + u * 256)))) = w5 at *
    cases hv : vld x (y % 16) (y / 16) (0) (IntKind.i16.wrap (z + u * 256))
    · have HV := Lib.hid (show decV x y z u = .tuple #[code 0 0 0 0 0, .int .i64 2] from by unfold decV decOk; rw [HC.out, HM.out, hv]; rfl)
      refine (renc_no x (y % 16) (y / 16) (0) (IntKind.i16.wrap (z + u * 256)) HMB.out hv _).mono ?_
      rintro e w6 ⟨rfl, hb6⟩
      clear hv
      replace R5 := R5.next hb6
      have k6 := bt k5 hb6
      obtain ⟨lt', d0, d1, d2, d3, d4, g0, g1, g2, g3, g4⟩ := R5
      go_wp2_with fail
      refine bodyPost_ret (v := .tuple #[code 0 0 0 0 0, .int .i64 2]) (by simp [results, Tryd.results17, go_sem, *]) rfl ⟨ret_val HV.out.symm, ?_⟩
      repeat' first | with_reducible exact k6 | refine Below.setCell ?_ ?_ _ | refine Below.alloc ?_ ?_ _ | (simp; done) | (simp; omega)
    · have HV := Lib.hid (show decV x y z u = .tuple #[code x (y % 16) (y / 16) (0) (IntKind.i16.wrap (z + u * 256)), .int .i64 0] from by unfold decV decOk; rw [HC.out, HM.out, hv]; rfl)
      refine (renc_ok x (y % 16) (y / 16) (0) (IntKind.i16.wrap (z + u * 256)) HMB.out hv _).mono ?_
      rintro e w6 ⟨rfl, hb6⟩
      rw [HN.out, show y % 16 + 16 * (y / 16) = y from by omega, show (z + u * 256) % 256 = z from by omega, show (z + u * 256) / 256 = u from by omega]
      clear hv
      replace R5 := R5.next hb6
      replace C5 := C5.next hb6
      replace A5 := A5.next hb6
      have k6 := bt k5 hb6
      obtain ⟨lt, c0, c1, c2, c3, c4, f0, f1, f2, f3, f4⟩ := C5
      obtain ⟨lt', d0, d1, d2, d3, d4, g0, g1, g2, g3, g4⟩ := R5
      obtain ⟨lt'', e0, e1, e2, e3, h0, h1, h2, h3⟩ := A5
      go_wp2_with fail
      refine bodyPost_ret (v := .tuple #[code x (y % 16) (y / 16) (0) (IntKind.i16.wrap (z + u * 256)), .int .i64 0]) (by simp [results, Tryd.results17, go_sem, *]) rfl ⟨ret_val HV.out.symm, ?_⟩
      repeat' first | with_reducible exact k6 | refine Below.setCell ?_ ?_ _ | refine Below.alloc ?_ ?_ _ | (simp; done) | (simp; omega)

theorem rdec_c (x y z u : Int) (hx : 0 ≤ x ∧ x ≤ 255) (hy : 0 ≤ y ∧ y ≤ 255) (hz : 0 ≤ z ∧ z ≤ 255) (hu : 0 ≤ u ∧ u ≤ 255) (w : World) : Calls Tryd.prog 17 #[four x y z u] w fun e w' => e = .returned (decV x y z u) ∧ Below w.heap.size w w' := by
  by_cases h : (2 : Int) ∈ shp x.toNat
  · exact rdec_y x y z u h hx hy hz hu w
  · exact rdec_n x y z u h hx hy hz hu w
end Go.Proofs.YtpgjmegecfaijaaDoor
