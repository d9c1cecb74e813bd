/-
  Arguments opened to values: arrays of bytes, a string's size.
-/
import Derived.ProofKit
import Derived.OpenShut
import Derived.SizedLaws
import Derived.WideShapes
import Derived.Lib.SmallJoins
import Derived.Deep.Fields
namespace Go.Proofs.YtabfjiapoafgaaaDoor
open Go.ChangeShapes Go.WideShapes Go.RowKit Go.Joins Go.Deep

section
variable {H : Type} {enc : TypeId × Value → H} {P : Program} {w : World} {base : Nat} {spare : Nat → Bool} {held : Bool}
theorem okWide_array {r : Reach} {b0 n : Nat} {t e : TypeId} {v : Value} (ht : P.underlying t = some (.array n e)) (h : Value.okWide P w r b0 t v) : ∃ cs, v = .agg cs ∧ cs.size = P.cellsOf t := by
  simp only [Value.okWide, ht] at h
  obtain ⟨cs, h1, h2, _⟩ := h
  exact ⟨cs, h1, h2⟩

theorem open_bytes {r : Reach} {b0 n : Nat} {t e : TypeId} {v : Value} {d : DataW H} {p : List MemPlace} (ht : P.underlying t = some (.array n e)) (he : P.underlying e = some (.int .u8)) (hc : P.cellsOf t = n) (hce : P.cellsOf e = 1)
    (hv : Value.okWide P w r b0 t v) (h : DataW.Trod enc P w base spare held t v d p) :
    ∃ cs : Array Value, v = .agg cs ∧ cs.size = n ∧ ∀ i, i < n → ∃ x : Int, cs[i]? = some (.int .u8 x) ∧ 0 ≤ x ∧ x ≤ 255 := by
  obtain ⟨cs, rfl, hsz⟩ := okWide_array ht hv
  refine ⟨cs, rfl, hsz.trans hc, fun i hi => ?_⟩
  obtain ⟨fuel, hf⟩ := h
  obtain ⟨xs, m, _, _, _, hxl, hel⟩ := DataW.trod_array ht hf
  have h1 := hel i hi
  rw [hce, Nat.mul_one] at h1
  have hx : xs[i]? = some (xs[i]'(by omega)) := List.getElem?_eq_getElem (by omega)
  rw [hx] at h1
  obtain ⟨z, hz, _, hw⟩ := DataW.trod_int he h1
  have hb : 0 ≤ z ∧ z ≤ 255 := by simpa [Lit.wf, IntKind.min, IntKind.max, IntKind.signed, IntKind.bits] using hw
  refine ⟨z, ?_, hb.1, hb.2⟩
  have hq := congrArg (·[0]?) hz
  simpa [Value.cells, List.getElem?_take, List.getElem?_drop] using hq

theorem open_bytes2 {r : Reach} {b0 : Nat} {t e : TypeId} {v : Value} {d : DataW H} {p : List MemPlace} (ht : P.underlying t = some (.array 2 e)) (he : P.underlying e = some (.int .u8)) (hc : P.cellsOf t = 2) (hce : P.cellsOf e = 1)
    (hv : Value.okWide P w r b0 t v) (h : DataW.Trod enc P w base spare held t v d p) :
    ∃ x y : Int, v = .agg #[.int .u8 x, .int .u8 y] ∧ (0 ≤ x ∧ x ≤ 255) ∧ (0 ≤ y ∧ y ≤ 255) := by
  obtain ⟨cs, rfl, hs, hel⟩ := open_bytes ht he hc hce hv h
  obtain ⟨x, hx, bx⟩ := hel 0 (by decide)
  obtain ⟨y, hy, by'⟩ := hel 1 (by decide)
  refine ⟨x, y, ?_, bx, by'⟩
  congr 1
  apply Array.ext_getElem?
  intro i
  match i with
  | 0 => simpa using hx
  | 1 => simpa using hy
  | i + 2 => rw [Array.getElem?_eq_none (by omega), Array.getElem?_eq_none (by simp)]
theorem open_bytes4 {r : Reach} {b0 : Nat} {t e : TypeId} {v : Value} {d : DataW H} {p : List MemPlace} (ht : P.underlying t = some (.array 4 e)) (he : P.underlying e = some (.int .u8)) (hc : P.cellsOf t = 4) (hce : P.cellsOf e = 1)
    (hv : Value.okWide P w r b0 t v) (h : DataW.Trod enc P w base spare held t v d p) :
    ∃ x y z u : Int, v = .agg #[.int .u8 x, .int .u8 y, .int .u8 z, .int .u8 u] ∧ (0 ≤ x ∧ x ≤ 255) ∧ (0 ≤ y ∧ y ≤ 255) ∧ (0 ≤ z ∧ z ≤ 255) ∧ (0 ≤ u ∧ u ≤ 255) := by
  obtain ⟨cs, rfl, hs, hel⟩ := open_bytes ht he hc hce hv h
  obtain ⟨x, hx, bx⟩ := hel 0 (by decide)
  obtain ⟨y, hy, by'⟩ := hel 1 (by decide)
  obtain ⟨z, hz, bz⟩ := hel 2 (by decide)
  obtain ⟨u, hu, bu⟩ := hel 3 (by decide)
  refine ⟨x, y, z, u, ?_, bx, by', bz, bu⟩
  congr 1
  apply Array.ext_getElem?
  intro i
  match i with
  | 0 => simpa using hx
  | 1 => simpa using hy
  | 2 => simpa using hz
  | 3 => simpa using hu
  | i + 4 => rw [Array.getElem?_eq_none (by omega), Array.getElem?_eq_none (by simp)]

theorem open_pair64 {r : Reach} {b0 : Nat} {t : TypeId} {f0 f1 : Field} {v : Value} {d : DataW H} {p : List MemPlace} (hs : P.underlying t = some (.struct #[f0, f1])) (hone : oneCellFields P #[f0, f1] = true) (hC : P.cellsOf t = 2)
    (h0 : P.underlying f0.type = some (.int .i64)) (h1 : P.underlying f1.type = some (.int .i64)) (hv : Value.okWide P w r b0 t v) (h : DataW.Trod enc P w base spare held t v d p) :
    ∃ x y : Int, v = .agg #[.int .i64 x, .int .i64 y] ∧ (-9223372036854775808 ≤ x ∧ x ≤ 9223372036854775807) ∧ (-9223372036854775808 ≤ y ∧ y ≤ 9223372036854775807) := by
  obtain ⟨c0, c1, y0, y1, m, rfl, -, -, hy0, hy1⟩ := Joins.open_agg2 hs hone hC hv h
  obtain ⟨a, e0, -, wa⟩ := DataW.trod_int h0 hy0
  obtain ⟨b, e1, -, wb⟩ := DataW.trod_int h1 hy1
  simp at e0 e1
  subst e0 e1
  exact ⟨a, b, rfl, by simpa [Lit.wf, IntKind.min, IntKind.max, IntKind.signed, IntKind.bits] using wa, by simpa [Lit.wf, IntKind.min, IntKind.max, IntKind.signed, IntKind.bits] using wb⟩
theorem open_quad64 {r : Reach} {b0 : Nat} {t e : TypeId} {v : Value} {d : DataW H} {p : List MemPlace} (ht : P.underlying t = some (.array 2 e)) (he : P.underlying e = some (.int .i64)) (hc : P.cellsOf t = 2) (hce : P.cellsOf e = 1)
    (hv : Value.okWide P w r b0 t v) (h : DataW.Trod enc P w base spare held t v d p) :
    ∃ x y : Int, v = .agg #[.int .i64 x, .int .i64 y] := by
  obtain ⟨cs, rfl, hsz⟩ := okWide_array ht hv
  obtain ⟨fuel, hf⟩ := h
  obtain ⟨xs, m, _, _, _, hxl, hel⟩ := DataW.trod_array ht hf
  have hat : ∀ i, i < 2 → ∃ x : Int, cs[i]? = some (.int .i64 x) := by
    intro i hi
    have h1 := hel i hi
    rw [hce, Nat.mul_one] at h1
    have hx : xs[i]? = some (xs[i]'(by omega)) := List.getElem?_eq_getElem (by omega)
    rw [hx] at h1
    obtain ⟨z, hz, _, _⟩ := DataW.trod_int he h1
    have hq := congrArg (·[0]?) hz
    exact ⟨z, by simpa [Value.cells, List.getElem?_take, List.getElem?_drop] using hq⟩
  obtain ⟨x, hx⟩ := hat 0 (by decide)
  obtain ⟨y, hy⟩ := hat 1 (by decide)
  refine ⟨x, y, ?_⟩
  congr 1
  apply Array.ext_getElem?
  intro i
  match i with
  | 0 => simpa using hx
  | 1 => simpa using hy
  | i + 2 => rw [Array.getElem?_eq_none (by omega), Array.getElem?_eq_none (by simp)]

theorem sized_str {ts : List TypeId} {ds : List (DataW H)} {s : ByteArray} (h : (DataW.weightsEach P ts ds).all (· ≤ reachBytes) = true) (j : Nat) {t : TypeId} (ht : ts[j]? = some t) (hd : ds[j]? = some (.lit (.string s.data.toList))) : s.size ≤ 140737488351232 := by
  have := sized_string h ht hd
  simpa [reachBytes] using this
end
end Go.Proofs.YtabfjiapoafgaaaDoor
