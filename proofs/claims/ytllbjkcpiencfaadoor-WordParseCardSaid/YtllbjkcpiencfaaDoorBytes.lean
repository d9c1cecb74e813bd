/-
  Put and Get of word and of trickleref01: the two bytes of a word.
-/
import Derived.Test.YtllbjkcpiencfaaDoorWrap
import Derived.Lib.EndianBits
import Derived.Laws.StructEq
import Derived.Laws.Tables
import Derived.KernelRfl
namespace Go.Proofs.YtllbjkcpiencfaaDoor
open Go.RowKit

abbrev two (a : Int) : Value := .agg #[.int .u8 (a % 256), .int .u8 (a % 65536 / 256)]
theorem ret_agg2 {a b c d : Int} (h : a = c) (h' : b = d) : Ending.returned (.agg #[.int .u8 a, .int .u8 b]) = .returned (.agg #[.int .u8 c, .int .u8 d]) := by rw [h, h']

@[go_sem] theorem eq35 (a b c d : Int) (w : World) : (Op.equalIn 10000 35 (.agg #[.int .u8 a, .int .u8 b]) (.agg #[.int .u8 c, .int .u8 d])).run Tryd.prog w = .ok (a == c && b == d) w := by
  have u5 := Tryd.underlying5
  have a5 := Tryd.isAgg5
  have z5 := Tryd.sizeOf5
  rw [show (10000 : Nat) = 9999 + 1 from rfl, Op.equalIn]
  simp only [Sem.run_bind, run_underlying Tryd.underlying35, Result.andThen_ok]
  simp only [Std.Legacy.Range.forIn_eq_forIn_range', Std.Legacy.Range.size, Nat.sub_zero, Nat.add_sub_cancel, Nat.div_one, List.range'_succ, List.range'_zero, List.forIn_cons, List.forIn_nil]
  go_simp
  by_cases h1 : a = c <;> by_cases h2 : b = d <;> simp [h1, h2]

theorem put_c (a : Int) (w : World) : Calls Tryd.prog 24 #[.int .i16 a] w fun e w' => e = .returned (two a) ∧ Below w.heap.size w w' := by
  have b0 : 0 ≤ IntKind.u16.wrap a := by rw [wrap_u16]; omega
  have b1 : IntKind.u16.wrap a ≤ 65535 := by rw [wrap_u16]; omega
  go_enter Tryd.func24, Tryd.ntmps24
  go_wp2_with fail
  refine bodyPost_ret (v := .agg #[.int .u8 (a % 256), .int .u8 (IntKind.u16.wrap a / 256)]) (by simp [results, Tryd.results24, go_sem]) rfl ⟨ret_agg2 rfl (by rw [wrap_u16]), (Below.refl _ _).alloc (Nat.le_refl _) _⟩

theorem rput_c (a : Int) (h0 : -32768 ≤ a) (h1 : a ≤ 32767) (w : World) : Calls Tryd.prog 25 #[.int .i16 a] w fun e w' => e = .returned (two a) ∧ Below w.heap.size w w' := by
  go_enter Tryd.func25, Tryd.ntmps25
  go_wp2_with fail
  · exact bodyPost_ret (v := .agg #[.int .u8 ((a + 65536) % 256), .int .u8 ((a + 65536) / 256)]) (by simp [results, Tryd.results25, go_sem]) rfl ⟨ret_agg2 (by omega) (by omega), (Below.refl _ _).alloc (Nat.le_refl _) _⟩
  · exact bodyPost_ret (v := .agg #[.int .u8 (a % 256), .int .u8 (a / 256)]) (by simp [results, Tryd.results25, go_sem]) rfl ⟨ret_agg2 rfl (by omega), (Below.refl _ _).alloc (Nat.le_refl _) _⟩
theorem get_c (x y : Int) (hx0 : 0 ≤ x) (hx1 : x ≤ 255) (hy0 : 0 ≤ y) (hy1 : y ≤ 255) (w : World) : Calls Tryd.prog 26 #[.agg #[.int .u8 x, .int .u8 y]] w fun e w' => e = .returned (.int .i16 (IntKind.i16.wrap (x + 256 * y))) ∧ Below w.heap.size w w' := by
  go_enter Tryd.func26, Tryd.ntmps26
  go_wp2_with fail
  go_ret
  have hb : bits .or .u16 x (y * 256) = x + y * 256 := Go.bits_join_low .u16 16 (by decide) Go.wraps_u16 8 x (y * 256) hx0 (by omega) (by omega) (by omega) (by omega) (by omega)
  exact ⟨ret_int (by rw [hb, Int.mul_comm y]), (Below.refl _ _).alloc (Nat.le_refl _) _⟩
theorem rget_c (x y : Int) (hx0 : 0 ≤ x) (hx1 : x ≤ 255) (hy0 : 0 ≤ y) (hy1 : y ≤ 255) (w : World) : Calls Tryd.prog 27 #[.agg #[.int .u8 x, .int .u8 y]] w fun e w' => e = .returned (.int .i16 (IntKind.i16.wrap (x + 256 * y))) ∧ Below w.heap.size w w' := by
  go_enter Tryd.func27, Tryd.ntmps27
  go_wp2_with fail
  refine (wrap_c _ (by omega) (by omega) _).mono ?_
  rintro e w1 ⟨rfl, rfl⟩
  go_wp2_with fail
  go_ret
  exact ⟨rfl, (Below.refl _ _).alloc (Nat.le_refl _) _⟩
end Go.Proofs.YtllbjkcpiencfaaDoor
