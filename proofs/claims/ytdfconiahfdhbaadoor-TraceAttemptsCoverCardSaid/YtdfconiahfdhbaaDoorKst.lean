/-
  The state of the closure that TraceKinds hands to Kind.
-/
import Derived.Test.YtdfconiahfdhbaaDoorPrs
namespace Go.Proofs.YtdfconiahfdhbaaDoor
open Go.RowKit

theorem info3 : (Tryd.prog.info? 3).map (fun i => (i.zero, i.size, i.bytes)) = some (some (.int .i64 0), 1, 8) := by kernel_rfl
/-- indices as values -/
def idxV (g : List Nat) : List Value := g.map fun (i : Nat) => .int .i64 (i : Int)
/-- the captured cells lie apart -/
structure KA (w0 : World) (BO BE BG BL BK : Nat) (base : Nat) : Prop where
  o : w0.heap.size ≤ BO
  g : w0.heap.size ≤ BG
  oe : BO ≠ BE
  og : BO ≠ BG
  ol : BO ≠ BL
  ge : BG ≠ BE
  gl : BG ≠ BL
  bo : BO < base
  be : BE < base
  bg : BG < base
  bl : BL < base
  bk : BK < base
  ok : BO ≠ BK
  gk : BG ≠ BK
/-- the captured cells: ok, the events, the indices got, the limit -/
structure KS (w0 : World) (BO BE BG BL BK base : Nat) (A : Option Addr) (cap : Nat) (l : List Ev) (k c : Int) (b : Bool) (v : Value) (g : List Nat) (W : World) : Prop where
  below : Below w0.heap.size w0 W
  sz : base ≤ W.heap.size
  evs : Evs w0 A l
  ok : W.cell? ⟨BO, 0, none⟩ = some (.bool b)
  fo : W.frozen? ⟨BO, 0, none⟩ = false
  ev : W.cell? ⟨BE, 0, none⟩ = some (.slice A l.length cap)
  got : W.cell? ⟨BG, 0, none⟩ = some v
  fg : W.frozen? ⟨BG, 0, none⟩ = false
  lim : W.cell? ⟨BL, 0, none⟩ = some (.int .u8 c)
  kd : W.cell? ⟨BK, 0, none⟩ = some (.int .i64 k)
  own : W.ownsRow base 3 1 v g.length (idxV g)
section
variable {w0 W W' : World} {BO BE BG BL BK base : Nat} {A : Option Addr} {cap : Nat} {l : List Ev} {k c : Int} {b : Bool} {v : Value} {g : List Nat}
theorem KS.next (a : KA w0 BO BE BG BL BK base) (h : KS w0 BO BE BG BL BK base A cap l k c b v g W) (hb : Below W.heap.size W W') : KS w0 BO BE BG BL BK base A cap l k c b v g W' := by
  obtain ⟨hc, hf⟩ := bcell hb
  have hs := h.sz
  have h1 := a.bo
  have h2 := a.be
  have h3 := a.bg
  have h4 := a.bl
  have h5 := a.bk
  exact ⟨bt h.below hb, Nat.le_trans hs hb.size, h.evs, (hc _ _ (by omega)).trans h.ok, (hf _ _ (by omega)).trans h.fo, (hc _ _ (by omega)).trans h.ev, (hc _ _ (by omega)).trans h.got, (hf _ _ (by omega)).trans h.fg, (hc _ _ (by omega)).trans h.lim, (hc _ _ (by omega)).trans h.kd, owns_below h.own hb⟩
theorem KS.setOk (a : KA w0 BO BE BG BL BK base) (h : KS w0 BO BE BG BL BK base A cap l k c b v g W) (b' : Bool) : KS w0 BO BE BG BL BK base A cap l k c b' v g (W.setCell ⟨BO, 0, none⟩ (.bool b')) :=
  ⟨h.below.setCell (by simpa using a.o) _, by simpa using h.sz, h.evs, World.cell?_setCell_same _ _ _ h.ok, by simpa using h.fo, (far W a.oe _).trans h.ev, (far W a.og _).trans h.got, by simpa using h.fg, (far W a.ol _).trans h.lim, (far W a.ok _).trans h.kd, owns_set h.own (by simpa using a.bo) _⟩
theorem KS.grow (a : KA w0 BO BE BG BL BK base) (h : KS w0 BO BE BG BL BK base A cap l k c b v g W) {v' : Value} {g' : List Nat} (hg : W.grownBy W' v.ownBlock) (ho : W'.ownsRow base 3 1 v' g'.length (idxV g')) : KS w0 BO BE BG BL BK base A cap l k c b v' g' (W'.setCell ⟨BG, 0, none⟩ v') := by
  have hs := h.sz
  have h1 := a.bo
  have h2 := a.be
  have h3 := a.bg
  have h4 := a.bl
  have h5 := a.bk
  have hn : ∀ x, x < base → some x ≠ v.ownBlock := fun x hx e => by have := (h.own.lt _ e.symm).1; omega
  have kf : ∀ x, x < base → W'.cell? ⟨x, 0, none⟩ = W.cell? ⟨x, 0, none⟩ := fun x hx => hg.cell_far ⟨x, 0, none⟩ (by simp only; omega) (hn x hx)
  have f : ∀ x, x < base → W'.frozen? ⟨x, 0, none⟩ = W.frozen? ⟨x, 0, none⟩ := fun x hx => hg.frozen_far ⟨x, 0, none⟩ (by simp only; omega) (hn x hx)
  have hb : Below w0.heap.size w0 W' := h.below.grown hg (h.below.size) (fun j e => by have := (h.own.lt _ e).1; have := a.o; omega)
  exact ⟨hb.setCell (by simpa using a.g) _, by simpa using Nat.le_trans hs hg.size, h.evs, ((far W' (Ne.symm a.og) _).trans (kf _ h1)).trans h.ok, by simpa using (f _ h1).trans h.fo, ((far W' a.ge _).trans (kf _ h2)).trans h.ev, World.cell?_setCell_same _ _ _ ((kf _ h3).trans h.got), by simpa using (f _ h3).trans h.fg, ((far W' a.gl _).trans (kf _ h4)).trans h.lim, ((far W' a.gk _).trans (kf _ h5)).trans h.kd, owns_set ho (by simpa using h3) _⟩
end
end Go.Proofs.YtdfconiahfdhbaaDoor
