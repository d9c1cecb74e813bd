/-
  Small laws for the walks of this seat.
-/
import Derived.WalkKit
import Derived.Laws.IdiomStrings
import Derived.Maps.AppendAt
import Derived.Lib.SmallJoins
import Derived.Below
namespace Go.Proofs.YtabfjiapoafgaaaDoor
open Go.RowKit

/-- 'string([]byte{c})': the literal's one cell is the newest block. -/
theorem run_one_byte {P : Program} {src dst e : TypeId} (hs : P.underlying src = some (.slice e)) (he : P.underlying e = some (.int .u8)) (hd : P.underlying dst = some .string) (m : Int) (h0 : 0 ≤ m) (h1 : m ≤ 255) (w : World) :
    (convert src dst (.slice (some ⟨w.heap.size, 0, none⟩) 1 1)).run P (w.alloc (.cells #[.int .u8 m] e)) = .ok (.string ⟨#[UInt8.ofNat m.toNat]⟩) (w.alloc (.cells #[.int .u8 m] e)) := by
  have e0 : ((UInt8.ofNat m.toNat).toNat : Int) = m := by simp [UInt8.toNat_ofNat']; omega
  have := run_convert_bytes_back (P := P) (w.alloc (.cells #[.int .u8 m] e)) src dst e ⟨w.heap.size, 0, none⟩ 1 [UInt8.ofNat m.toNat] hs he hd (by
    intro j hj
    have hj0 : j = 0 := by simp at hj; omega
    subst hj0
    simp only [List.getElem_cons_zero, e0]
    exact cell_one_new w _ e 0 _ rfl)
  simpa using this
theorem ret_str {a b : ByteArray} (h : a = b) : Ending.returned (.string a) = .returned (.string b) := by rw [h]
theorem ret_int {k : IntKind} {a b : Int} (h : a = b) : Ending.returned (.int k a) = .returned (.int k b) := by rw [h]
theorem ret_two {k k' : IntKind} {a b c d : Int} (h : a = c) (h' : b = d) : Ending.returned (.tuple #[.int k a, .int k' b]) = .returned (.tuple #[.int k c, .int k' d]) := by rw [h, h']
theorem ret_bool {a b : Bool} (h : a = b) : Ending.returned (.bool a) = .returned (.bool b) := by rw [h]
theorem wrap_i16 (n : Int) : IntKind.i16.wrap n = (n + 32768) % 65536 - 32768 := by
  simp [IntKind.wrap, IntKind.bits, IntKind.signed]
  omega
theorem wrap_u16 (n : Int) : IntKind.u16.wrap n = n % 65536 := by simp [IntKind.wrap, IntKind.bits, IntKind.signed]
theorem wrap_u8 (n : Int) : IntKind.u8.wrap n = n % 256 := by simp [IntKind.wrap, IntKind.bits, IntKind.signed]
theorem tmod_nonneg {m : Int} (h : 0 ≤ m) (k : Int) : m.tmod k = m % k := Int.tmod_eq_emod_of_nonneg h
theorem tmod_neg {m : Int} (h : m < 0) (k : Int) : m.tmod k = -((-m) % k) := by
  have : m.tmod k = -((-m).tmod k) := by rw [Int.neg_tmod]; omega
  rw [this, Int.tmod_eq_emod_of_nonneg (by omega)]
theorem bdn {B : Nat} {w W : World} (h : Below B w W) (n : Nat) : Below B w (W.drewN n) := ⟨h.os, h.tape, h.output, h.size, h.block⟩
theorem ba (w : World) (o : Obj) : Below w.heap.size w (w.alloc o) := (Below.refl _ _).alloc (Nat.le_refl _) _
theorem bt {w a b : World} (h1 : Below w.heap.size w a) (h2 : Below a.heap.size a b) : Below w.heap.size w b := h1.trans (h2.mono h1.size)
theorem bcell {W w1 : World} (hb : Below W.heap.size W w1) : (∀ b o, b < W.heap.size → w1.cell? ⟨b, o, none⟩ = W.cell? ⟨b, o, none⟩) ∧ (∀ b o, b < W.heap.size → w1.frozen? ⟨b, o, none⟩ = W.frozen? ⟨b, o, none⟩) :=
  ⟨fun b o h => hb.cell (p := ⟨b, o, none⟩) h, fun b o h => hb.frozen (p := ⟨b, o, none⟩) h⟩
theorem _root_.Go.World.drewB (w : World) : Below w.heap.size w w.drew := (Below.refl _ _).drew
theorem bytes_append (a b : List UInt8) : (⟨a.toArray⟩ : ByteArray) ++ ⟨b.toArray⟩ = ⟨(a ++ b).toArray⟩ := by
  apply ByteArray.ext
  apply Array.toList_inj.1
  rw [Joins.data_append]
end Go.Proofs.YtabfjiapoafgaaaDoor
