/-
  Arguments that are slices, opened: of periods, of operations, of numbers, of bytes.
-/
import Derived.Test.YtabfjiapoafgaaaDoorOpenS
import Derived.Test.YtabfjiapoafgaaaDoorPer
import Derived.Test.YtabfjiapoafgaaaDoorOpen
namespace Go.Proofs.YtabfjiapoafgaaaDoor
open Go.ChangeShapes Go.WideShapes Go.RowKit Go.Deep
set_option linter.unusedVariables false

section
variable {H : Type} {enc : TypeId × Value → H} {w : World} {base : Nat} {spare : Nat → Bool} {held : Bool} {r : Reach} {b0 : Nat} {v : Value} {d : DataW H} {p : List MemPlace}
set_option maxRecDepth 100000 in
/-- structs of two ints -/
theorem open_pairs {t e : TypeId} {f0 f1 : Field} (ht : Tryd.prog.underlying t = some (.slice e)) (he : Tryd.prog.underlying e = some (.struct #[f0, f1])) (hone : oneCellFields Tryd.prog #[f0, f1] = true) (hC : Tryd.prog.cellsOf e = 2)
    (h0 : Tryd.prog.underlying f0.type = some (.int .i64)) (h1 : Tryd.prog.underlying f1.type = some (.int .i64)) (hv : Value.okWide Tryd.prog w r b0 t v) (h : DataW.Trod enc Tryd.prog w base spare held t v d p) :
    ∃ (A : Option Addr) (l : List (Int × Int)) (cap : Nat), v = .slice A l.length cap ∧ (l.length : Int) ≤ 9223372036854775807 ∧ InP l ∧ Prs w A l := by
  obtain ⟨A, len, cap, rfl, hl, hm, hi⟩ := open_structs ht he hone hC hv h
  obtain ⟨l, hll, hat⟩ := list_of (P := fun i (x : Int × Int) => (∃ a, A = some a ∧ w.cell? (a.add (i * 2)) = some (.int .i64 x.1) ∧ w.cell? (a.add (i * 2 + 1)) = some (.int .i64 x.2)) ∧ B64 x.1 ∧ B64 x.2) len (fun i hil => by
    obtain ⟨a, n, ea, hf⟩ := hi i hil
    obtain ⟨u0, y0, c0, d0⟩ := hf 0 _ rfl
    obtain ⟨u1, y1, c1, d1⟩ := hf 1 _ rfl
    obtain ⟨z0, rfl, w0⟩ := field_int h0 d0
    obtain ⟨z1, rfl, w1⟩ := field_int h1 d1
    exact ⟨(z0, z1), ⟨a, ea, c0, c1⟩, wf64 w0, wf64 w1⟩)
  refine ⟨A, l, cap, by rw [hll], by unfold maxLen at hm; omega, fun x hx => ?_, ⟨fun j x hj => ?_⟩⟩
  · obtain ⟨i, hi, rfl⟩ := List.getElem_of_mem hx
    exact (hat i _ (List.getElem?_eq_getElem hi)).2
  · obtain ⟨⟨a, ea, c0, c1⟩, -⟩ := hat j x hj
    refine ⟨a, ea, ?_, c0, c1⟩
    have := World.block_lt_of_cell? _ _ c0
    rwa [block_of_add] at this
set_option maxRecDepth 100000 in
theorem open_periods (hv : Value.okWide Tryd.prog w r b0 22 v) (h : DataW.Trod enc Tryd.prog w base spare held 22 v d p) :
    ∃ (A : Option Addr) (l : List (Int × Int)) (cap : Nat), v = .slice A l.length cap ∧ (l.length : Int) ≤ 9223372036854775807 ∧ InP l ∧ Prs w A l :=
  open_pairs Tryd.underlying22 Tryd.underlying38 (by kernel_rfl) (by kernel_rfl) Tryd.underlying3 Tryd.underlying2 hv h
set_option maxRecDepth 100000 in
theorem open_acts (hv : Value.okWide Tryd.prog w r b0 53 v) (h : DataW.Trod enc Tryd.prog w base spare held 53 v d p) :
    ∃ (A : Option Addr) (l : List (Int × Int)) (cap : Nat), v = .slice A l.length cap ∧ (l.length : Int) ≤ 9223372036854775807 ∧ InP l ∧ Prs w A l :=
  open_pairs Tryd.underlying53 Tryd.underlying58 (by kernel_rfl) (by kernel_rfl) Tryd.underlying3 Tryd.underlying3 hv h
/-- a slice of ints in memory -/
structure Its (k : IntKind) (w : World) (A : Option Addr) (l : List Int) : Prop where
  at_ : ∀ j x, l[j]? = some x → ∃ ad, A = some ad ∧ ad.block < w.heap.size ∧ w.cell? (ad.add j) = some (.int k x)
theorem Its.next {k : IntKind} {w w1 : World} {A : Option Addr} {l : List Int} (h : Its k w A l) (hb : Below w.heap.size w w1) : Its k w1 A l :=
  ⟨fun j x hj => by
    obtain ⟨ad, e, hlt, h1⟩ := h.at_ j x hj
    exact ⟨ad, e, Nat.lt_of_lt_of_le hlt hb.size, (hb.cell (by rw [block_of_add]; exact hlt)).trans h1⟩⟩
set_option maxRecDepth 100000 in
theorem open_numbers {k : IntKind} {t e : TypeId} (ht : Tryd.prog.underlying t = some (.slice e)) (he : Tryd.prog.underlying e = some (.int k)) (hc : Tryd.prog.cellsOf e = 1)
    (hv : Value.okWide Tryd.prog w r b0 t v) (h : DataW.Trod enc Tryd.prog w base spare held t v d p) :
    ∃ (A : Option Addr) (l : List Int) (cap : Nat), v = .slice A l.length cap ∧ (l.length : Int) ≤ 9223372036854775807 ∧ (∀ x ∈ l, (Lit.int k x).wf = true) ∧ Its k w A l := by
  obtain ⟨A0, len0, cap0, rfl⟩ := okWide_slice ht hv
  obtain ⟨fuel, hf⟩ := h
  rcases open_slice ht hf with ⟨h1, -⟩ | ⟨a, len, cap, m, n, D, Pl, hcs, hb, hl, hm, hmm, hx, hi⟩
  · simp [Value.cells] at h1
    obtain ⟨rfl, rfl, rfl⟩ := h1
    exact ⟨none, [], 0, rfl, by simp, fun x h => (by cases h), ⟨fun j x h => by simp at h⟩⟩
  · simp [Value.cells] at hcs
    obtain ⟨rfl, rfl, rfl⟩ := hcs
    obtain ⟨l, hll, hat⟩ := list_of (P := fun i (x : Int) => w.cell? (a.add i) = some (.int k x) ∧ (Lit.int k x).wf = true) len0 (fun i hil => by
      have him : i < m := by rw [hmm]; split <;> omega
      obtain ⟨cs', hc', ht'⟩ := hi i him
      rw [hc] at hc'
      obtain ⟨_, hcl, hcat⟩ := World.cells?_some hc'
      obtain ⟨z, hz, _, hw⟩ := DataW.trod_int he ht'
      rw [Nat.mul_one] at hcat
      have h0 := hcat 0 (by omega)
      rw [hz] at h0
      rw [show (a.add i).add (0 * 1 + 0) = a.add i from rfl] at h0
      exact ⟨z, by simpa using h0, hw⟩)
    refine ⟨some a, l, cap0, by rw [hll], by unfold maxLen at hm; omega, fun x hx => ?_, ⟨fun j x hj => ?_⟩⟩
    · obtain ⟨i, hi, rfl⟩ := List.getElem_of_mem hx
      exact (hat i _ (List.getElem?_eq_getElem hi)).2
    · have := (hat j x hj).1
      refine ⟨a, rfl, ?_, this⟩
      have := World.block_lt_of_cell? _ _ this
      rwa [block_of_add] at this
set_option maxRecDepth 100000 in
theorem open_ints (hv : Value.okWide Tryd.prog w r b0 32 v) (h : DataW.Trod enc Tryd.prog w base spare held 32 v d p) :
    ∃ (A : Option Addr) (l : List Int) (cap : Nat), v = .slice A l.length cap ∧ (l.length : Int) ≤ 9223372036854775807 ∧ (∀ x ∈ l, B64 x) ∧ Its .i64 w A l := by
  obtain ⟨A, l, cap, h1, h2, h3, h4⟩ := open_numbers Tryd.underlying32 Tryd.underlying3 (by kernel_rfl) hv h
  exact ⟨A, l, cap, h1, h2, fun x hx => wf64 (h3 x hx), h4⟩
set_option maxRecDepth 100000 in
theorem open_u8s (hv : Value.okWide Tryd.prog w r b0 50 v) (h : DataW.Trod enc Tryd.prog w base spare held 50 v d p) :
    ∃ (A : Option Addr) (l : List Int) (cap : Nat), v = .slice A l.length cap ∧ (l.length : Int) ≤ 9223372036854775807 ∧ (∀ x ∈ l, 0 ≤ x ∧ x ≤ 255) ∧ Its .u8 w A l := by
  obtain ⟨A, l, cap, h1, h2, h3, h4⟩ := open_numbers Tryd.underlying50 Tryd.underlying5 (by kernel_rfl) hv h
  exact ⟨A, l, cap, h1, h2, fun x hx => by simpa [Lit.wf, IntKind.min, IntKind.max, IntKind.signed, IntKind.bits] using h3 x hx, h4⟩
end
end Go.Proofs.YtabfjiapoafgaaaDoor
