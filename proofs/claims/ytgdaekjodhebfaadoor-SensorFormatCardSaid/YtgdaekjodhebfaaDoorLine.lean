/-
  line and parse: a line of a trace's text, written and read.
-/
import Derived.Test.YtgdaekjodhebfaaDoorNew
import Derived.Lib.ItoaLen
namespace Go.Proofs.YtgdaekjodhebfaaDoor
open Go.RowKit

/-- the line of a change -/
def lineT (x : Int × Int) : List UInt8 := Lib.itoa x.1 ++ [32] ++ Lib.itoa x.2 ++ [10]
def B64 (n : Int) : Prop := -9223372036854775808 ≤ n ∧ n ≤ 9223372036854775807
def B16 (n : Int) : Prop := -32768 ≤ n ∧ n ≤ 32767
theorem itoa_size (n : Int) (h0 : -9223372036854775808 ≤ n) (h1 : n ≤ 9223372036854775807) : (⟨(Lib.itoa n).toArray⟩ : ByteArray).size ≤ 21 := by
  have := Lib.itoa_length_le n h0 h1
  simpa [ByteArray.size] using this
/-- the two cells of a change -/
structure BX (w0 : World) (X : Nat) (t v : Int) (W : World) : Prop where
  ready : Ready W
  below : Below w0.heap.size w0 W
  lt : X < W.heap.size
  x0 : W.cell? ⟨X, 0, none⟩ = some (.int .i64 t)
  x1 : W.cell? ⟨X, 1, none⟩ = some (.int .i16 v)
theorem BX.next {w0 W W' : World} {X : Nat} {t v : Int} (h : BX w0 X t v W) (hb : Below W.heap.size W W') : BX w0 X t v W' :=
  ⟨h.ready.below hb, h.below.trans (hb.mono h.below.size), Nat.lt_of_lt_of_le h.lt hb.size, ((bcell hb).1 _ _ h.lt).trans h.x0, ((bcell hb).1 _ _ h.lt).trans h.x1⟩
theorem BX.start {w0 w : World} (h : Below w0.heap.size w0 w) (hr : Ready w) (t v : Int) (e : TypeId) : BX w0 w.heap.size t v (w.alloc (.cells #[.int .i64 t, .int .i16 v] e)) :=
  ⟨hr.below (ba _ _), bt h (ba _ _), by simp, (new_change w t v e).1, (new_change w t v e).2⟩
set_option maxRecDepth 100000 in
set_option maxHeartbeats 1000000 in
theorem line_c (t v : Int) (ht : B64 t) (hv : B16 v) (w : World) (hr : Ready w) : Calls Tryd.prog 33 #[.agg #[.int .i64 t, .int .i16 v]] w fun e w' => e = .returned (.string ⟨(lineT (t, v)).toArray⟩) ∧ Below w.heap.size w w' := by
  obtain ⟨t0, t1⟩ := ht
  have v0 : -9223372036854775808 ≤ v := by have := hv.1; omega
  have v1 : v ≤ 9223372036854775807 := by have := hv.2; omega
  have la := Lib.itoa_length_le t t0 t1
  have lb := Lib.itoa_length_le v v0 v1
  have r1 := fun W => run_string_add_sum (P := Tryd.prog) W ⟨(Lib.itoa t).toArray⟩ ⟨#[32]⟩ (by simp [ByteArray.size]; omega)
  have r2 := fun W => run_string_add_sum (P := Tryd.prog) W (⟨(Lib.itoa t).toArray⟩ ++ ⟨#[32]⟩) ⟨(Lib.itoa v).toArray⟩ (by simp [ByteArray.size]; omega)
  have r3 := fun W => run_string_add_sum (P := Tryd.prog) W (⟨(Lib.itoa t).toArray⟩ ++ ⟨#[32]⟩ ++ ⟨(Lib.itoa v).toArray⟩) ⟨#[10]⟩ (by simp [ByteArray.size]; omega)
  have K := BX.start (Below.refl _ _) hr t v 29
  have hw16 : IntKind.i64.wrap v = v := IntWalk.i64_in _ (by omega)
  have x0 := K.x0
  have x1 := K.x1
  have HT := Lib.hid (show (⟨(lineT (t, v)).toArray⟩ : ByteArray) = ⟨(Lib.itoa t).toArray⟩ ++ ⟨#[32]⟩ ++ ⟨(Lib.itoa v).toArray⟩ ++ ⟨#[10]⟩ from by
    rw [show (⟨#[32]⟩ : ByteArray) = ⟨([32] : List UInt8).toArray⟩ from rfl, show (⟨#[10]⟩ : ByteArray) = ⟨([10] : List UInt8).toArray⟩ from rfl, bytes_append, bytes_append, bytes_append]; rfl)
  go_enter Tryd.func33, Tryd.ntmps33
  go_wp2_with fail
  clear x0 x1
  generalize w.heap.size = A at *
  generalize w.alloc (.cells #[.int .i64 t, .int .i16 v] 29) = W at *
  replace K := K.next W.drewB
  go_region_held3 (fun w' => w'.cell? ⟨A, 0, none⟩ = some (.int .i64 t) ∧ w'.cell? ⟨A, 1, none⟩ = some (.int .i16 v) ∧ BX w A t v w') (first | exact ⟨K.x0, K.x1, K⟩ | go_keep)
    (first
      | (go_at_call 45; (with_reducible refine (formatInt_c t t0 t1 _ K.ready).mono ?_); rintro e w1 ⟨rfl, hb1⟩; replace K := K.next hb1)
      | (go_at_call 46; (with_reducible refine (itoa_c v v0 v1 _ K.ready).mono ?_); rintro e w2 ⟨rfl, hb2⟩; replace K := K.next hb2))
  all_goals go_wp2_with fail
  all_goals go_ret
  all_goals exact ⟨ret_str HT.out.symm, K.below⟩
end Go.Proofs.YtgdaekjodhebfaaDoor
