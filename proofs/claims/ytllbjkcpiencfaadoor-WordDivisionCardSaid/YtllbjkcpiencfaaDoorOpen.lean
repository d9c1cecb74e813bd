/-
  Arguments opened to values: arrays of bytes, a string's size.
-/
import Derived.ProofKit
import Derived.OpenShut
import Derived.SizedLaws
import Derived.WideShapes
namespace Go.Proofs.YtllbjkcpiencfaaDoor
open Go.ChangeShapes Go.WideShapes Go.RowKit

section
variable {H : Type} {enc : TypeId × Value → H} {P : Program} {w : World} {base : Nat} {spare : Nat → Bool} {held : Bool}
theorem okWide_array {r : Reach} {b0 n : Nat} {t e : TypeId} {v : Value} (ht : P.underlying t = some (.array n e)) (h : Value.okWide P w r b0 t v) : ∃ cs, v = .agg cs ∧ cs.size = P.cellsOf t := by
  simp only [Value.okWide, ht] at h
  obtain ⟨cs, h1, h2, _⟩ := h
  exact ⟨cs, h1, h2⟩

theorem open_bytes {r : Reach} {b0 n : Nat} {t e : TypeId} {v : Value} {d : DataW H} {p : List MemPlace} (ht : P.underlying t = some (.array n e)) (he : P.underlying e = some (.int .u8)) (hc : P.cellsOf t = n) (hce : P.cellsOf e = 1)
    (hv : Value.okWide P w r b0 t v) (h : DataW.Trod enc P w base spare held t v d p) :
    ∃ cs : Array Value, v = .agg cs ∧ cs.size = n ∧ ∀ i, i < n → ∃ x : Int, cs[i]? = some (.int .u8 x) ∧ 0 ≤ x ∧ x ≤ 255 := by
  obtain ⟨cs, rfl, hsz⟩ := okWide_array ht hv
  refine ⟨cs, rfl, hsz.trans hc, fun i hi => ?_⟩
  obtain ⟨fuel, hf⟩ := h
  obtain ⟨xs, m, _, _, _, hxl, hel⟩ := DataW.trod_array ht hf
  have h1 := hel i hi
  rw [hce, Nat.mul_one] at h1
  have hx : xs[i]? = some (xs[i]'(by omega)) := List.getElem?_eq_getElem (by omega)
  rw [hx] at h1
  obtain ⟨z, hz, _, hw⟩ := DataW.trod_int he h1
  have hb : 0 ≤ z ∧ z ≤ 255 := by simpa [Lit.wf, IntKind.min, IntKind.max, IntKind.signed, IntKind.bits] using hw
  refine ⟨z, ?_, hb.1, hb.2⟩
  have hq := congrArg (·[0]?) hz
  simpa [Value.cells, List.getElem?_take, List.getElem?_drop] using hq

theorem open_bytes2 {r : Reach} {b0 : Nat} {t e : TypeId} {v : Value} {d : DataW H} {p : List MemPlace} (ht : P.underlying t = some (.array 2 e)) (he : P.underlying e = some (.int .u8)) (hc : P.cellsOf t = 2) (hce : P.cellsOf e = 1)
    (hv : Value.okWide P w r b0 t v) (h : DataW.Trod enc P w base spare held t v d p) :
    ∃ x y : Int, v = .agg #[.int .u8 x, .int .u8 y] ∧ (0 ≤ x ∧ x ≤ 255) ∧ (0 ≤ y ∧ y ≤ 255) := by
  obtain ⟨cs, rfl, hs, hel⟩ := open_bytes ht he hc hce hv h
  obtain ⟨x, hx, bx⟩ := hel 0 (by decide)
  obtain ⟨y, hy, by'⟩ := hel 1 (by decide)
  refine ⟨x, y, ?_, bx, by'⟩
  congr 1
  apply Array.ext_getElem?
  intro i
  match i with
  | 0 => simpa using hx
  | 1 => simpa using hy
  | i + 2 => rw [Array.getElem?_eq_none (by omega), Array.getElem?_eq_none (by simp)]
theorem open_bytes4 {r : Reach} {b0 : Nat} {t e : TypeId} {v : Value} {d : DataW H} {p : List MemPlace} (ht : P.underlying t = some (.array 4 e)) (he : P.underlying e = some (.int .u8)) (hc : P.cellsOf t = 4) (hce : P.cellsOf e = 1)
    (hv : Value.okWide P w r b0 t v) (h : DataW.Trod enc P w base spare held t v d p) :
    ∃ x y z u : Int, v = .agg #[.int .u8 x, .int .u8 y, .int .u8 z, .int .u8 u] ∧ (0 ≤ x ∧ x ≤ 255) ∧ (0 ≤ y ∧ y ≤ 255) ∧ (0 ≤ z ∧ z ≤ 255) ∧ (0 ≤ u ∧ u ≤ 255) := by
  obtain ⟨cs, rfl, hs, hel⟩ := open_bytes ht he hc hce hv h
  obtain ⟨x, hx, bx⟩ := hel 0 (by decide)
  obtain ⟨y, hy, by'⟩ := hel 1 (by decide)
  obtain ⟨z, hz, bz⟩ := hel 2 (by decide)
  obtain ⟨u, hu, bu⟩ := hel 3 (by decide)
  refine ⟨x, y, z, u, ?_, bx, by', bz, bu⟩
  congr 1
  apply Array.ext_getElem?
  intro i
  match i with
  | 0 => simpa using hx
  | 1 => simpa using hy
  | 2 => simpa using hz
  | 3 => simpa using hu
  | i + 4 => rw [Array.getElem?_eq_none (by omega), Array.getElem?_eq_none (by simp)]

theorem sized_str {ts : List TypeId} {ds : List (DataW H)} {s : ByteArray} (h : (DataW.weightsEach P ts ds).all (· ≤ reachBytes) = true) (j : Nat) {t : TypeId} (ht : ts[j]? = some t) (hd : ds[j]? = some (.lit (.string s.data.toList))) : s.size ≤ 140737488351232 := by
  have := sized_string h ht hd
  simpa [reachBytes] using this
end
end Go.Proofs.YtllbjkcpiencfaaDoor
