/-
  An argument that is a slice of changes, opened.
-/
import Derived.Test.YtgdaekjodhebfaaDoorOpenS
import Derived.Test.YtgdaekjodhebfaaDoorRef
namespace Go.Proofs.YtgdaekjodhebfaaDoor
open Go.ChangeShapes Go.WideShapes Go.RowKit Go.Deep

set_option maxRecDepth 100000 in
theorem open_changes {H : Type} {enc : TypeId × Value → H} {w : World} {base : Nat} {spare : Nat → Bool} {held : Bool} {r : Reach} {b0 : Nat} {v : Value} {d : DataW H} {p : List MemPlace}
    (hv : Value.okWide Tryd.prog w r b0 22 v) (h : DataW.Trod enc Tryd.prog w base spare held 22 v d p) :
    ∃ (A : Option Addr) (l : List (Int × Int)) (cap : Nat), v = .slice A l.length cap ∧ (l.length : Int) ≤ 9223372036854775807 ∧ Bnd l ∧ Chs w A l := by
  obtain ⟨A, len, cap, rfl, hl, hm, hi⟩ := open_structs Tryd.underlying22 Tryd.underlying29 (by kernel_rfl) (show Tryd.prog.cellsOf 29 = 2 by kernel_rfl) hv h
  obtain ⟨l, hll, hat⟩ := list_of (P := fun i (x : Int × Int) => (∃ a, A = some a ∧ w.cell? (a.add (i * 2)) = some (.int .i64 x.1) ∧ w.cell? (a.add (i * 2 + 1)) = some (.int .i16 x.2)) ∧ (-9223372036854775808 ≤ x.1 ∧ x.1 ≤ 9223372036854775807) ∧ (-32768 ≤ x.2 ∧ x.2 ≤ 32767)) len (fun i hil => by
    obtain ⟨a, n, ea, hf⟩ := hi i hil
    obtain ⟨u0, y0, c0, d0⟩ := hf 0 _ rfl
    obtain ⟨u1, y1, c1, d1⟩ := hf 1 _ rfl
    obtain ⟨z0, rfl, w0⟩ := field_int Tryd.underlying2 d0
    obtain ⟨z1, rfl, w1⟩ := field_int Tryd.underlying27 d1
    exact ⟨(z0, z1), ⟨a, ea, c0, c1⟩, wf64 w0, wf16 w1⟩)
  refine ⟨A, l, cap, by rw [hll], by unfold maxLen at hm; omega, fun x hx => ?_, ⟨fun j x hj => ?_⟩⟩
  · obtain ⟨i, hi, rfl⟩ := List.getElem_of_mem hx
    exact (hat i _ (List.getElem?_eq_getElem hi)).2
  · obtain ⟨⟨a, ea, c0, c1⟩, -⟩ := hat j x hj
    refine ⟨a, ea, ?_, c0, c1⟩
    have := World.block_lt_of_cell? _ _ c0
    rwa [block_of_add] at this
end Go.Proofs.YtgdaekjodhebfaaDoor
