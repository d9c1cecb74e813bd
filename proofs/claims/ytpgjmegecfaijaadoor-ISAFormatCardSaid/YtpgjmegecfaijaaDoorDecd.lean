/-
  Decode of isa and of trickleref11. Printed by gen_decd.py.
-/
import Derived.Test.YtpgjmegecfaijaaDoorEnc
import Derived.Lib.EndianBits
namespace Go.Proofs.YtpgjmegecfaijaaDoor
open Go.RowKit

def decC (x z u : Int) : Int := if (2 : Int) ∈ shp x.toNat then z + u * 256 else 0
def decM (x z u : Int) : Int := if (2 : Int) ∈ shp x.toNat then 0 else IntKind.i16.wrap (z + u * 256)
def decOk (x y z u : Int) : Bool := vld x (y % 16) (y / 16) (decC x z u) (decM x z u)
theorem decM_bd (x z u : Int) : -32768 ≤ decM x z u ∧ decM x z u ≤ 32767 := by unfold decM; rw [wrap_i16]; split <;> omega
/-- what Decode returns -/
def decV (x y z u : Int) : Value := if decOk x y z u = true then .tuple #[code x (y % 16) (y / 16) (decC x z u) (decM x z u), .int .i64 0] else .tuple #[code 0 0 0 0 0, .int .i64 2]
theorem ret_val {a b : Value} (h : a = b) : Ending.returned a = .returned b := by rw [h]

theorem describe_any (op : Int) (w : World) : Calls Tryd.prog 35 #[.int .i64 op] w fun e w' => ∃ sa, e = .returned (.tuple #[.agg #[.string (nam op.toNat), .slice sa (shp op.toNat).length (shp op.toNat).length], .bool (decide (1 ≤ op ∧ op ≤ 30))]) ∧ Lst w' sa (shp op.toNat) ∧ Below w.heap.size w w' := by
  by_cases h : 1 ≤ op ∧ op ≤ 30
  · refine (describe_in op h.1 h.2 w).mono ?_
    rintro e w1 ⟨n, rfl, hn, T, hb⟩
    obtain ⟨sa, hsa, L⟩ := T.lst op.toNat (by omega)
    exact ⟨sa, by rw [hsa, decide_eq_true h], L, hb⟩
  · refine (describe_out op (by omega) w).mono ?_
    rintro e w1 ⟨rfl, hb⟩
    have hs := shp_out (op := op) (by omega)
    exact ⟨none, by rw [hs, nam_out (by omega), decide_eq_false h]; rfl, by rw [hs]; exact Lst.empty _, hb⟩

@[go_sem] theorem eq27 (a b c d a2 b2 c2 d2 : Int) (w : World) : (Op.equalIn 10000 27 (four a b c d) (four a2 b2 c2 d2)).run Tryd.prog w = .ok (a == a2 && (b == b2 && (c == c2 && d == d2))) w := by
  have u5 := Tryd.underlying5
  have a5 := Tryd.isAgg5
  have z5 := Tryd.sizeOf5
  rw [show (10000 : Nat) = 9999 + 1 from rfl, Op.equalIn]
  simp only [Sem.run_bind, run_underlying Tryd.underlying27, Result.andThen_ok]
  simp only [Std.Legacy.Range.forIn_eq_forIn_range', Std.Legacy.Range.size, Nat.sub_zero, Nat.add_sub_cancel, Nat.div_one, List.range'_succ, List.range'_zero, List.forIn_cons, List.forIn_nil]
  go_simp
  by_cases h1 : a = a2 <;> by_cases h2 : b = b2 <;> by_cases h3 : c = c2 <;> by_cases h4 : d = d2 <;> simp [h1, h2, h3, h4]

set_option maxHeartbeats 2000000 in
theorem dec_c (x y z u : Int) (hx : 0 ≤ x ∧ x ≤ 255) (hy : 0 ≤ y ∧ y ≤ 255) (hz : 0 ≤ z ∧ z ≤ 255) (hu : 0 ≤ u ∧ u ≤ 255) (w : World) : Calls Tryd.prog 16 #[four x y z u] w fun e w' => e = .returned (decV x y z u) ∧ Below w.heap.size w w' := by
  obtain ⟨hx0, hx1⟩ := hx
  obtain ⟨hy0, hy1⟩ := hy
  obtain ⟨hz0, hz1⟩ := hz
  obtain ⟨hu0, hu1⟩ := hu
  have hb : bits .or .u16 z (u * 256) = z + u * 256 := Go.bits_join_low .u16 16 (by decide) Go.wraps_u16 8 z (u * 256) hz0 (by omega) (by omega) (by omega) (by omega) (by omega)
  have hb0 : 0 ≤ z + u * 256 := by omega
  have hb1 : z + u * 256 ≤ 65535 := by omega
  go_enter Tryd.func16, Tryd.ntmps16
  go_wp2_with fail
  have R0 := (Cod.new (w := w.alloc (.cells #[.int .u8 x, .int .u8 y, .int .u8 z, .int .u8 u] 27)) 0 0 0 0 0 24).next (ba _ (.cells #[.int .i64 x, .int .i64 (y % 16), .int .i64 (y / 16), .int .i64 0, .int .i16 0] 24))
  have C0 := Cod.new (w := (w.alloc (.cells #[.int .u8 x, .int .u8 y, .int .u8 z, .int .u8 u] 27)).alloc (.cells #[.int .i64 0, .int .i64 0, .int .i64 0, .int .i64 0, .int .i16 0] 24)) x (y % 16) (y / 16) 0 0 24
  refine (describe_any x _).mono ?_
  rintro e w2 ⟨sa, rfl, L, hb2⟩
  replace R0 := R0.next hb2
  replace C0 := C0.next hb2
  have k2 : Below w.heap.size w w2 := bt (bt (bt (ba w _) (ba _ _)) (ba _ _)) hb2
  clear hb2
  simp only [World.size_alloc] at R0 C0
  go_wp2_with fail
  refine (contains_c sa _ (shp_len _) 2 _ (L.next (ba w2 _))).mono ?_
  rintro e w3 ⟨rfl, rfl⟩
  replace R0 := R0.next (ba w2 (.cells #[.string (nam x.toNat), .slice sa (shp x.toNat).length (shp x.toNat).length] 46))
  replace C0 := C0.next (ba w2 (.cells #[.string (nam x.toNat), .slice sa (shp x.toNat).length (shp x.toNat).length] 46))
  have k4 := bt k2 (ba w2 (.cells #[.string (nam x.toNat), .slice sa (shp x.toNat).length (shp x.toNat).length] 46))
  clear L k2
  generalize (w2.alloc (.cells #[.string (nam x.toNat), .slice sa (shp x.toNat).length (shp x.toNat).length] 46)) = w4 at *
  by_cases h : (2 : Int) ∈ shp x.toNat
  · have HC := Lib.hid (show decC x z u = z + u * 256 from by unfold decC; rw [if_pos h])
    have HM := Lib.hid (show decM x z u = 0 from by unfold decM; rw [if_pos h])
    have hmb := decM_bd x z u
    rw [HM.out] at hmb
    have HMB := Lib.hid hmb
    clear hmb
    obtain ⟨lt, c0, c1, c2, c3, c4, f0, f1, f2, f3, f4⟩ := id C0
    go_wp2_with fail
    clear lt c0 c1 c2 c3 c4 f0 f1 f2 f3 f4
    have C5 : Cod (w.heap.size + 1 + 1) x (y % 16) (y / 16) (z + u * 256) (0) (w4.setCell ⟨w.heap.size + 1 + 1, 3, none⟩ (.int .i64 (z + u * 256))) := by simpa [setW] using C0.written (o := 2) (z + u * 256) (by simp)
    have R5 := R0.off (w.heap.size + 1 + 1) 3 (.int .i64 (z + u * 256)) (by omega)
    have k5 := Below.setCell k4 (p := ⟨w.heap.size + 1 + 1, 3, none⟩) (by simp; omega) (.int .i64 (z + u * 256))
    generalize (w4.setCell ⟨w.heap.size + 1 + 1, 3, none⟩ (.int .i64 (z + u * 256))) = w5 at *
    refine (valid_c x (y % 16) (y / 16) (z + u * 256) (0) HMB.out _).mono ?_
    rintro e w6 ⟨rfl, hb6⟩
    replace R5 := R5.next hb6
    replace C5 := C5.next hb6
    have k6 := bt k5 hb6
    obtain ⟨lt, c0, c1, c2, c3, c4, f0, f1, f2, f3, f4⟩ := C5
    obtain ⟨lt', d0, d1, d2, d3, d4, g0, g1, g2, g3, g4⟩ := R5
    cases hv : vld x (y % 16) (y / 16) (z + u * 256) (0)
    · have HV := Lib.hid (show decV x y z u = .tuple #[code 0 0 0 0 0, .int .i64 2] from by unfold decV decOk; rw [HC.out, HM.out, hv]; rfl)
      clear hv
      go_wp2_with fail
      refine bodyPost_ret (v := .tuple #[code 0 0 0 0 0, .int .i64 2]) (by simp [results, Tryd.results16, go_sem, *]) rfl ⟨ret_val HV.out.symm, ?_⟩
      repeat' first | exact k6 | refine Below.setCell ?_ ?_ _ | (simp; done) | (simp; omega)
    · have HV := Lib.hid (show decV x y z u = .tuple #[code x (y % 16) (y / 16) (z + u * 256) (0), .int .i64 0] from by unfold decV decOk; rw [HC.out, HM.out, hv]; rfl)
      clear hv
      go_wp2_with fail
      refine bodyPost_ret (v := .tuple #[code x (y % 16) (y / 16) (z + u * 256) (0), .int .i64 0]) (by simp [results, Tryd.results16, go_sem, *]) rfl ⟨ret_val HV.out.symm, ?_⟩
      repeat' first | exact k6 | refine Below.setCell ?_ ?_ _ | (simp; done) | (simp; omega)
  · have HC := Lib.hid (show decC x z u = 0 from by unfold decC; rw [if_neg h])
    have HM := Lib.hid (show decM x z u = IntKind.i16.wrap (z + u * 256) from by unfold decM; rw [if_neg h])
    have hmb := decM_bd x z u
    rw [HM.out] at hmb
    have HMB := Lib.hid hmb
    clear hmb
    obtain ⟨lt, c0, c1, c2, c3, c4, f0, f1, f2, f3, f4⟩ := id C0
    go_wp2_with fail
    clear lt c0 c1 c2 c3 c4 f0 f1 f2 f3 f4
    have C5 : Cod (w.heap.size + 1 + 1) x (y % 16) (y / 16) (0) (IntKind.i16.wrap (z + u * 256)) (w4.setCell ⟨w.heap.size + 1 + 1, 4, none⟩ (.int .i16 (IntKind.i16.wrap (z + u * 256)))) := by simpa [setW] using C0.written (o := 3) (z + u * 256) (by simp)
    have R5 := R0.off (w.heap.size + 1 + 1) 4 (.int .i16 (IntKind.i16.wrap (z + u * 256))) (by omega)
    have k5 := Below.setCell k4 (p := ⟨w.heap.size + 1 + 1, 4, none⟩) (by simp; omega) (.int .i16 (IntKind.i16.wrap (z + u * 256)))
    generalize (w4.setCell ⟨w.heap.size + 1 + 1, 4, none⟩ (.int .i16 (IntKind.i16.wrap (z + u * 256)))) = w5 at *
    refine (valid_c x (y % 16) (y / 16) (0) (IntKind.i16.wrap (z + u * 256)) HMB.out _).mono ?_
    rintro e w6 ⟨rfl, hb6⟩
    replace R5 := R5.next hb6
    replace C5 := C5.next hb6
    have k6 := bt k5 hb6
    obtain ⟨lt, c0, c1, c2, c3, c4, f0, f1, f2, f3, f4⟩ := C5
    obtain ⟨lt', d0, d1, d2, d3, d4, g0, g1, g2, g3, g4⟩ := R5
    cases hv : vld x (y % 16) (y / 16) (0) (IntKind.i16.wrap (z + u * 256))
    · have HV := Lib.hid (show decV x y z u = .tuple #[code 0 0 0 0 0, .int .i64 2] from by unfold decV decOk; rw [HC.out, HM.out, hv]; rfl)
      clear hv
      go_wp2_with fail
      refine bodyPost_ret (v := .tuple #[code 0 0 0 0 0, .int .i64 2]) (by simp [results, Tryd.results16, go_sem, *]) rfl ⟨ret_val HV.out.symm, ?_⟩
      repeat' first | exact k6 | refine Below.setCell ?_ ?_ _ | (simp; done) | (simp; omega)
    · have HV := Lib.hid (show decV x y z u = .tuple #[code x (y % 16) (y / 16) (0) (IntKind.i16.wrap (z + u * 256)), .int .i64 0] from by unfold decV decOk; rw [HC.out, HM.out, hv]; rfl)
      clear hv
      go_wp2_with fail
      refine bodyPost_ret (v := .tuple #[code x (y % 16) (y / 16) (0) (IntKind.i16.wrap (z + u * 256)), .int .i64 0]) (by simp [results, Tryd.results16, go_sem, *]) rfl ⟨ret_val HV.out.symm, ?_⟩
      repeat' first | exact k6 | refine Below.setCell ?_ ?_ _ | (simp; done) | (simp; omega)

end Go.Proofs.YtpgjmegecfaijaaDoor
