/-
  The line of a change, plainly: what TrimSuffix, Cut and ParseInt find in it.
-/
import Derived.Test.YtgdaekjodhebfaaDoorLine
namespace Go.Proofs.YtgdaekjodhebfaaDoor
open Go.RowKit

theorem itoa_dig (n : Int) (c : UInt8) (h : c ∈ Lib.itoa n) : c = 45 ∨ (48 ≤ c.toNat ∧ c.toNat ≤ 57) := by
  by_cases h0 : n < 0
  · rw [Dec.itoa_neg h0] at h
    rcases List.mem_cons.1 h with h | h
    · exact .inl h
    · exact .inr (Dec.decDigits_dig _ _ h)
  · rw [Dec.itoa_nonneg (by omega)] at h
    exact .inr (Dec.decDigits_dig _ _ h)
theorem itoa_no32 (n : Int) : (32 : UInt8) ∉ Lib.itoa n := fun h => by
  rcases itoa_dig n 32 h with h | h
  · exact absurd h (by decide)
  · exact absurd h.1 (by decide)
theorem itoa_no10 (n : Int) : (10 : UInt8) ∉ Lib.itoa n := fun h => by
  rcases itoa_dig n 10 h with h | h
  · exact absurd h (by decide)
  · exact absurd h.1 (by decide)
theorem lineT_no10 (x : Int × Int) : (10 : UInt8) ∉ Lib.itoa x.1 ++ [32] ++ Lib.itoa x.2 := by
  simp only [List.mem_append, not_or]
  exact ⟨⟨itoa_no10 _, by decide⟩, itoa_no10 _⟩
theorem trim_line (l : List UInt8) : Lib.trimSuffix (l ++ [10]) [10] = l := by
  unfold Lib.trimSuffix Lib.hasSuffix
  simp
theorem cut_line (x : Int × Int) : Lib.cut (Lib.trimSuffix (lineT x) [10]) [32] = (Lib.itoa x.1, Lib.itoa x.2, true) := by
  unfold lineT
  rw [trim_line]
  exact cut_at (itoa_no32 _)
theorem cut_le (s sep : List UInt8) : (Lib.cut s sep).1.length ≤ s.length ∧ (Lib.cut s sep).2.1.length ≤ s.length := by
  unfold Lib.cut
  split
  · simp; omega
  · simp
theorem lineT_len (x : Int × Int) (h1 : B64 x.1) (h2 : B16 x.2) : (lineT x).length ≤ 44 := by
  have la := Lib.itoa_length_le x.1 h1.1 h1.2
  have lb := Lib.itoa_length_le x.2 (by have := h2.1; omega) (by have := h2.2; omega)
  unfold lineT
  simp
  omega
theorem parse64_itoa {n : Int} (h : B64 n) : Lib.parseIntB 64 (Lib.itoa n) = .ok n := Dec.parseIntB_itoa 64 n (by decide) (by decide) (by have := h.1; simp; omega) (by have := h.2; simp; omega)
theorem parse16_itoa {n : Int} (h : B16 n) : Lib.parseIntB 16 (Lib.itoa n) = .ok n := Dec.parseIntB_itoa 16 n (by decide) (by decide) (by have := h.1; simp; omega) (by have := h.2; simp; omega)
/-- what a parse of a line answers -/
def ParseP (s : List UInt8) (w : World) (e : Ending) (w' : World) : Prop := ∃ (t v : Int) (b : Bool), e = .returned (.tuple #[.agg #[.int .i64 t, .int .i16 v], .bool b]) ∧ (b = true → B64 t ∧ B16 v ∧ s = lineT (t, v)) ∧ (b = false → ∀ x : Int × Int, B64 x.1 → B16 x.2 → s ≠ lineT x) ∧ Below w.heap.size w w'
end Go.Proofs.YtgdaekjodhebfaaDoor
