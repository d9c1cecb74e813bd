/-
  An argument that is a slice of events, opened.
-/
import Derived.Test.YtdfconiahfdhbaaDoorOpenS
import Derived.Test.YtdfconiahfdhbaaDoorEvs
namespace Go.Proofs.YtdfconiahfdhbaaDoor
open Go.ChangeShapes Go.WideShapes Go.RowKit Go.Deep

set_option maxRecDepth 100000 in
theorem open_events {H : Type} {enc : TypeId × Value → H} {w : World} {base : Nat} {spare : Nat → Bool} {held : Bool} {r : Reach} {b0 : Nat} {v : Value} {d : DataW H} {p : List MemPlace}
    (hv : Value.okWide Tryd.prog w r b0 22 v) (h : DataW.Trod enc Tryd.prog w base spare held 22 v d p) :
    ∃ (A : Option Addr) (l : List Ev) (cap : Nat), v = .slice A l.length cap ∧ (l.length : Int) ≤ 9223372036854775807 ∧ InL l ∧ Evs w A l := by
  obtain ⟨A, len, cap, rfl, hl, hm, hi⟩ := open_structs Tryd.underlying22 Tryd.underlying26 (by kernel_rfl) (show Tryd.prog.cellsOf 26 = 6 by kernel_rfl) hv h
  obtain ⟨l, hll, hat⟩ := list_of (P := fun i (x : Ev) => (∃ a, A = some a ∧ w.cell? (a.add (i * 6)) = some (.int .i64 x.kind) ∧ w.cell? (a.add (i * 6 + 1)) = some (.int .i64 x.time) ∧ w.cell? (a.add (i * 6 + 2)) = some (.int .i64 x.task) ∧ w.cell? (a.add (i * 6 + 3)) = some (.int .i64 x.n) ∧ w.cell? (a.add (i * 6 + 4)) = some (.int .i16 x.value) ∧ w.cell? (a.add (i * 6 + 5)) = some (.int .i64 x.port)) ∧ InE x) len (fun i hil => by
    obtain ⟨a, n, ea, hf⟩ := hi i hil
    obtain ⟨u0, y0, c0, d0⟩ := hf 0 _ rfl
    obtain ⟨u1, y1, c1, d1⟩ := hf 1 _ rfl
    obtain ⟨u2, y2, c2, d2⟩ := hf 2 _ rfl
    obtain ⟨u3, y3, c3, d3⟩ := hf 3 _ rfl
    obtain ⟨u4, y4, c4, d4⟩ := hf 4 _ rfl
    obtain ⟨u5, y5, c5, d5⟩ := hf 5 _ rfl
    obtain ⟨z0, rfl, w0⟩ := field_int Tryd.underlying3 d0
    obtain ⟨z1, rfl, w1⟩ := field_int Tryd.underlying2 d1
    obtain ⟨z2, rfl, w2⟩ := field_int Tryd.underlying3 d2
    obtain ⟨z3, rfl, w3⟩ := field_int Tryd.underlying2 d3
    obtain ⟨z4, rfl, w4⟩ := field_int Tryd.underlying24 d4
    obtain ⟨z5, rfl, w5⟩ := field_int Tryd.underlying3 d5
    exact ⟨⟨z0, z1, z2, z3, z4, z5⟩, ⟨a, ea, c0, c1, c2, c3, c4, c5⟩, ⟨wf64 w0, wf64 w1, wf64 w2, wf64 w3, wf16 w4, wf64 w5⟩⟩)
  refine ⟨A, l, cap, by rw [hll], by unfold maxLen at hm; omega, fun x hx => ?_, ⟨fun j x hj => ?_⟩⟩
  · obtain ⟨i, hi, rfl⟩ := List.getElem_of_mem hx
    exact (hat i _ (List.getElem?_eq_getElem hi)).2
  · obtain ⟨⟨a, ea, c0, c1, c2, c3, c4, c5⟩, -⟩ := hat j x hj
    have q : ∀ m, 0 < m → a.add (j * 6 + m) = ⟨(a.add (j * 6)).block, (a.add (j * 6)).off + m, none⟩ := fun m hm => by
      unfold Addr.add
      rw [if_neg (by omega : ¬ j * 6 + m = 0)]
      by_cases h : j * 6 = 0
      · rw [if_pos h, h, Nat.zero_add]
      · rw [if_neg h]
        simp only [Nat.add_assoc]
    rw [q 1 (by omega)] at c1
    rw [q 2 (by omega)] at c2
    rw [q 3 (by omega)] at c3
    rw [q 4 (by omega)] at c4
    rw [q 5 (by omega)] at c5
    exact ⟨a, ea, ⟨World.block_lt_of_cell? _ _ c0, c0, c1, c2, c3, c4, c5⟩⟩
end Go.Proofs.YtdfconiahfdhbaaDoor
