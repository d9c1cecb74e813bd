/-
  Rows of readings that a call makes: finished ones, and one that is being filled.
-/
import Derived.Test.YtdfconiahfdhbaaDoorRdm
import Derived.Laws.OwnMore
import Derived.RangeFuncBox
namespace Go.Proofs.YtdfconiahfdhbaaDoor
open Go.RowKit

/-- all rows are finished -/
structure Cls (w0 : World) (v : Value) (vs : List Value) (L : List (List Rd)) (W : World) : Prop where
  below : Below w0.heap.size w0 W
  own : W.ownsRow w0.heap.size 51 1 v vs.length vs
  fin : Fin2 w0.heap.size vs L W.heap.size W
/-- the last row is being filled -/
structure Opn (w0 : World) (gv cv n : Nat) (vs : List Value) (u : Value) (L : List (List Rd)) (r : List Rd) (B : Nat) (W : World) : Prop where
  below : Below w0.heap.size w0 W
  hn : vs.length = n
  own : W.ownsRow w0.heap.size 51 1 (.slice (some ⟨gv, 0, none⟩) (n + 1) cv) (n + 1) (vs ++ [u])
  fin : Fin2 w0.heap.size vs L B W
  last : W.ownsRow B 53 2 u r.length (flatD r)
  ge : w0.heap.size ≤ B
  le : B ≤ W.heap.size
section
variable {w0 W W' : World} {v : Value} {gv cv n B : Nat} {vs : List Value} {u : Value} {L : List (List Rd)} {r : List Rd}
theorem Cls.next (h : Cls w0 v vs L W) (hb : Below W.heap.size W W') : Cls w0 v vs L W' := ⟨bt h.below hb, owns_below h.own hb, (h.fin.next hb).mono hb.size⟩
theorem Opn.next (h : Opn w0 gv cv n vs u L r B W) (hb : Below W.heap.size W W') : Opn w0 gv cv n vs u L r B W' := ⟨bt h.below hb, h.hn, owns_below h.own hb, h.fin.next hb, owns_below h.last hb, h.ge, Nat.le_trans h.le hb.size⟩
theorem Cls.zero (w0 : World) : Cls w0 (.slice none 0 0) [] [] w0 := ⟨Below.refl _ _, World.ownsRow_nil _ _ _ _, Fin2.nil _ _ _⟩
theorem Opn.cls (h : Opn w0 gv cv n vs u L r B W) : Cls w0 (.slice (some ⟨gv, 0, none⟩) (n + 1) cv) (vs ++ [u]) (L ++ [r]) W :=
  ⟨h.below, by rw [List.length_append, List.length_singleton, h.hn]; exact h.own, h.fin.snoc (owns_mono h.last h.ge) h.le⟩
/-- a new row -/
theorem Cls.grown (h : Cls w0 v vs L W) {v' : Value} {n' : Nat} (hn : vs.length = n') (hg : W.grownBy W' v.ownBlock) (ho : W'.ownsRow w0.heap.size 51 1 v' (n' + 1) (vs ++ [.slice none 0 0])) : ∃ gv cv, v' = .slice (some ⟨gv, 0, none⟩) (n' + 1) cv ∧ Opn w0 gv cv n' vs (.slice none 0 0) L [] W'.heap.size W' := by
  obtain ⟨gv, cv, rfl⟩ := ownsRow_succ ho
  have hbl : Below w0.heap.size w0 W' := h.below.grown hg h.below.size (fun j e => (h.own.lt _ e).1)
  refine ⟨gv, cv, rfl, hbl, hn, ho, ((h.fin.grown hg (fun x hx g hgx e => ?_)).mono hg.size), World.ownsRow_nil _ _ _ _, Nat.le_trans h.below.size hg.size, Nat.le_refl _⟩
  obtain ⟨j, r, _, _, hr⟩ := h.fin.at_ hx
  exact owns_ne hr h.own (by decide) hgx e
/-- a reading more in the last row -/
theorem Opn.push (h : Opn w0 gv cv n vs u L r B W) {u' : Value} {x : Rd} (hg : W.grownBy W' u.ownBlock) (ho : W'.ownsRow B 53 2 u' (r.length + 1) (flatD r ++ cellsD x)) : Opn w0 gv cv n vs u' L (r ++ [x]) B (W'.setCell ⟨gv, n, none⟩ u') := by
  have hbl : Below w0.heap.size w0 W' := h.below.grown hg h.below.size (fun j e => Nat.le_trans h.ge (h.last.lt _ e).1)
  have hgv : (Value.slice (some ⟨gv, 0, none⟩) (n + 1) cv).ownBlock = some gv := rfl
  have h1 : W'.ownsRow w0.heap.size 51 1 (.slice (some ⟨gv, 0, none⟩) (n + 1) cv) (n + 1) (vs ++ [u]) := h.own.kept hg (.inr (fun e => owns_ne h.own h.last (by decide) hgv (e ▸ rfl)))
  have h2 := (h1.stored n u').1
  have hset : (vs ++ [u]).set n u' = vs ++ [u'] := by rw [← h.hn, List.set_append_right _ _ (Nat.le_refl _), Nat.sub_self]; rfl
  rw [hset] at h2
  have hf := h.fin.grown hg (fun x hx g hgx e => by
    have h3 := h.fin.lt x hx g hgx
    have h4 := (h.last.lt g e).1
    omega)
  refine ⟨hbl.setCell (p := ⟨gv, n, none⟩) (h1.lt _ rfl).1 _, h.hn, h2, hf.set (fun x hx e => ?_) u', ?_, h.ge, by simpa using Nat.le_trans h.le hg.size⟩
  · obtain ⟨j, r', _, _, hr⟩ := hf.at_ hx
    exact owns_ne hr h1 (by decide) e hgv
  · rw [flatD_snoc, List.length_append, List.length_singleton]
    exact owns_set' ho (fun e => owns_ne ho h1 (by decide) e hgv) u'
theorem Opn.cell (h : Opn w0 gv cv n vs u L r B W) : W.cell? ⟨gv, n, none⟩ = some u := by
  rw [h.own.cellAt n (by omega), ← h.hn]
  simp
theorem Opn.frozen (h : Opn w0 gv cv n vs u L r B W) : W.frozen? ⟨gv, n, none⟩ = false := h.own.frozenAt n
theorem Opn.lt (h : Opn w0 gv cv n vs u L r B W) : gv < W.heap.size := (h.own.lt _ rfl).2
theorem Opn.ne (h : Opn w0 gv cv n vs u L r B W) : u.ownBlock ≠ some gv := fun e => owns_ne h.last h.own (by decide) e rfl
end
/-- a block known whole -/
structure BX (X : Nat) (cs : Array Value) (t : TypeId) (W : World) : Prop where
  h : W.heap[X]? = some (.cells cs t (0, 0))
section
variable {X : Nat} {cs : Array Value} {t : TypeId} {W W' : World}
theorem BX.new (w : World) (cs : Array Value) (t : TypeId) : BX w.heap.size cs t (w.alloc (.cells cs t)) := ⟨heap_alloc_new w _⟩
theorem BX.lt (h : BX X cs t W) : X < W.heap.size := (Array.getElem?_eq_some_iff.1 h.h).1
theorem BX.next (h : BX X cs t W) (hb : Below W.heap.size W W') : BX X cs t W' := ⟨(hb.block X h.lt).trans h.h⟩
theorem BX.cell (h : BX X cs t W) (j : Nat) : W.cell? ⟨X, j, none⟩ = cs[j]? := cell_of_row W X j cs t (0, 0) h.h
theorem BX.ne {b e s n : Nat} {v : Value} {x : List Value} (h : BX X cs t W) (ho : W.ownsRow b e s v n x) (he : t ≠ e) : v.ownBlock ≠ some X := fun q => by
  rcases ho.2 with ⟨rfl, _⟩ | ⟨g, c, cur, rfl, _, hh, _⟩
  · simp [Value.ownBlock] at q
  · obtain rfl : g = X := by simpa [Value.ownBlock] using q
    have := h.h
    rw [hh] at this
    cases this
    exact he rfl
theorem BX.grown (h : BX X cs t W) {row : Option Nat} (hg : W.grownBy W' row) (hne : row ≠ some X) : BX X cs t W' := ⟨(hg.block X h.lt (Ne.symm hne)).trans h.h⟩
theorem BX.set (h : BX X cs t W) {p : Addr} (hne : p.block ≠ X) (u : Value) : BX X cs t (W.setCell p u) := ⟨(Below.heap_setCell W p u X (Ne.symm hne)).trans h.h⟩
end
end Go.Proofs.YtdfconiahfdhbaaDoor
