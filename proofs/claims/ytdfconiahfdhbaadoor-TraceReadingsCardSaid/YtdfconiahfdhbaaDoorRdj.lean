/-
  The state of trace's Readings between two executions.
-/
import Derived.Test.YtdfconiahfdhbaaDoorRnb
import Derived.Test.YtdfconiahfdhbaaDoorKit
import Derived.Test.YtdfconiahfdhbaaDoorRdo
import Derived.Test.YtdfconiahfdhbaaDoorPrs
import Derived.Test.YtdfconiahfdhbaaDoorCov
namespace Go.Proofs.YtdfconiahfdhbaaDoor
open Go.RowKit

/-- the boxes lie apart -/
structure RC (w : World) (b B1 BO BA KK : Nat) (A2 : Option Addr) (a : List At) : Prop where
  h1 : B1 < b
  ho : BO < b
  ha : BA < b
  hk : KK < b
  wo : w.heap.size ≤ BO
  wb : w.heap.size ≤ b
  n1 : BO ≠ B1
  na : BO ≠ BA
  nk : BO ≠ KK
  at_ : a ≠ [] → ∀ ad, A2 = some ad → ad.block < b ∧ ad.block ≠ BO
structure RJ (w : World) (b B1 BO BA KK : Nat) (A : Option Addr) (len cap : Nat) (A2 : Option Addr) (cap2 : Nat) (a : List At) (v : Value) (vs : List Value) (L : List (List Rd)) (W : World) : Prop where
  below : Below w.heap.size w W
  sz : b ≤ W.heap.size
  ev : W.cell? ⟨B1, 0, none⟩ = some (.slice A len cap)
  out : W.cell? ⟨BO, 0, none⟩ = some v
  fo : W.frozen? ⟨BO, 0, none⟩ = false
  att : W.cell? ⟨BA, 0, none⟩ = some (.slice A2 a.length cap2)
  kd : W.cell? ⟨KK, 0, none⟩ = some (.int .i64 3)
  own : W.ownsRow b 51 1 v vs.length vs
  fin : Fin2 b vs L W.heap.size W
  atts : Atts W A2 a
section
variable {w : World} {b B1 BO BA KK len cap cap2 : Nat} {A A2 : Option Addr} {a : List At} {v : Value} {vs : List Value} {L : List (List Rd)} {W W' : World}
theorem RJ.next (c : RC w b B1 BO BA KK A2 a) (h : RJ w b B1 BO BA KK A len cap A2 cap2 a v vs L W) (hb : Below W.heap.size W W') : RJ w b B1 BO BA KK A len cap A2 cap2 a v vs L W' := by
  obtain ⟨hc, hf⟩ := bcell hb
  have hs := h.sz
  have q1 := c.h1
  have q2 := c.ho
  have q3 := c.ha
  have q4 := c.hk
  exact ⟨bt h.below hb, Nat.le_trans hs hb.size, (hc _ _ (by omega)).trans h.ev, (hc _ _ (by omega)).trans h.out, (hf _ _ (by omega)).trans h.fo, (hc _ _ (by omega)).trans h.att, (hc _ _ (by omega)).trans h.kd, owns_below h.own hb, (h.fin.next hb).mono hb.size, h.atts.next hb⟩
theorem Atts.turn {B : Nat} (h : Atts W A2 a) (ht : Turn B W W') : Atts W' A2 a :=
  ⟨fun j e hj => by
    obtain ⟨ad, ea, H⟩ := h.at_ j e hj
    exact ⟨ad, ea, ⟨Nat.lt_of_lt_of_le H.lt ht.below.size, ht.cell H.c0, ht.cell H.c1, ht.cell H.c2, ht.cell H.c3⟩⟩⟩
theorem RJ.turn (c : RC w b B1 BO BA KK A2 a) (h : RJ w b B1 BO BA KK A len cap A2 cap2 a v vs L W) (ht : Turn b W W') : RJ w b B1 BO BA KK A len cap A2 cap2 a v vs L W' :=
  ⟨h.below.trans (ht.below.mono c.wb), Nat.le_trans h.sz ht.below.size, ht.cell h.ev, ht.cell h.out, (ht.frozen h.out).trans h.fo, ht.cell h.att, ht.cell h.kd, ht.owns h.own, ⟨h.fin.len, fun j x r h1 h2 => ht.owns (h.fin.row j x r h1 h2), fun x hx g hg => Nat.lt_of_lt_of_le (h.fin.lt x hx g hg) ht.below.size⟩, h.atts.turn ht⟩
theorem Atts.grown (h : Atts W A2 a) {row : Option Nat} (hg : W.grownBy W' row) (hne : a ≠ [] → ∀ ad, A2 = some ad → row ≠ some ad.block) : Atts W' A2 a :=
  ⟨fun j e hj => by
    obtain ⟨ad, ea, H⟩ := h.at_ j e hj
    have hn := hne (fun q => by rw [q] at hj; simp at hj) ad ea
    have hb : (ad.add (j * 4)).block = ad.block := by unfold Addr.add; split <;> rfl
    have hl : ad.block < W.heap.size := by rw [← hb]; exact H.lt
    have k : ∀ x : Addr, x.block = ad.block → W'.cell? x = W.cell? x := fun x hx => hg.cell_far x (by rw [hx]; exact hl) (by rw [hx]; exact Ne.symm hn)
    exact ⟨ad, ea, ⟨Nat.lt_of_lt_of_le H.lt hg.size, (k _ hb).trans H.c0, (k ⟨(ad.add (j * 4)).block, (ad.add (j * 4)).off + 1, none⟩ hb).trans H.c1, (k ⟨(ad.add (j * 4)).block, (ad.add (j * 4)).off + 2, none⟩ hb).trans H.c2, (k ⟨(ad.add (j * 4)).block, (ad.add (j * 4)).off + 3, none⟩ hb).trans H.c3⟩⟩⟩
theorem Atts.set' (h : Atts W A2 a) {q : Addr} (hne : a ≠ [] → ∀ ad, A2 = some ad → ad.block ≠ q.block) (u : Value) : Atts (W.setCell q u) A2 a := by
  by_cases z : a = []
  · subst z; exact ⟨fun j e hj => by simp at hj⟩
  · exact h.set (hne z) u
/-- a write to a row of the round's own -/
theorem RJ.grown (c : RC w b B1 BO BA KK A2 a) (h : RJ w b B1 BO BA KK A len cap A2 cap2 a v vs L W) {row : Option Nat} (hg : W.grownBy W' row) (hr : ∀ g, row = some g → b ≤ g) (hv : ∀ g, v.ownBlock = some g → row ≠ some g) (hx : ∀ x ∈ vs, ∀ g, x.ownBlock = some g → row ≠ some g) : RJ w b B1 BO BA KK A len cap A2 cap2 a v vs L W' := by
  have hs := h.sz
  have q1 := c.h1
  have q2 := c.ho
  have q3 := c.ha
  have q4 := c.hk
  have q5 := c.wb
  have hn : ∀ x, x < b → some x ≠ row := fun x hx e => by have := hr x e.symm; omega
  have k : ∀ x, x < b → W'.cell? ⟨x, 0, none⟩ = W.cell? ⟨x, 0, none⟩ := fun x hx => hg.cell_far ⟨x, 0, none⟩ (by simp only; omega) (hn x hx)
  have f : ∀ x, x < b → W'.frozen? ⟨x, 0, none⟩ = W.frozen? ⟨x, 0, none⟩ := fun x hx => hg.frozen_far ⟨x, 0, none⟩ (by simp only; omega) (hn x hx)
  refine ⟨h.below.grown hg h.below.size (fun j e => by have := hr j e; omega), Nat.le_trans hs hg.size, (k _ q1).trans h.ev, (k _ q2).trans h.out, (f _ q2).trans h.fo, (k _ q3).trans h.att, (k _ q4).trans h.kd, ?_, (h.fin.grown hg hx).mono hg.size, h.atts.grown hg (fun z ad e q => by have := hr _ q; have := (c.at_ z ad e).1; omega)⟩
  refine h.own.kept hg ?_
  cases q : v.ownBlock with
  | none => exact .inl rfl
  | some g => exact .inr (fun e => hv g q e.symm)
/-- a row that is finished is appended -/
theorem RJ.push (c : RC w b B1 BO BA KK A2 a) (h : RJ w b B1 BO BA KK A len cap A2 cap2 a v vs L W) {u : Value} {r : List Rd} (hu : W.ownsRow b 53 2 u r.length (flatD r)) {v' : Value} (hg : W.grownBy W' v.ownBlock) (ho : W'.ownsRow b 51 1 v' (vs.length + 1) (vs ++ [u])) : RJ w b B1 BO BA KK A len cap A2 cap2 a v' (vs ++ [u]) (L ++ [r]) (W'.setCell ⟨BO, 0, none⟩ v') := by
  have hs := h.sz
  have q1 := c.h1
  have q2 := c.ho
  have q3 := c.ha
  have q4 := c.hk
  have q5 := c.wb
  have hr : ∀ g, v.ownBlock = some g → b ≤ g := fun g e => (h.own.lt g e).1
  have hn : ∀ x, x < b → some x ≠ v.ownBlock := fun x hx e => by have := hr x e.symm; omega
  have k : ∀ x, x < b → W'.cell? ⟨x, 0, none⟩ = W.cell? ⟨x, 0, none⟩ := fun x hx => hg.cell_far ⟨x, 0, none⟩ (by simp only; omega) (hn x hx)
  have f : ∀ x, x < b → W'.frozen? ⟨x, 0, none⟩ = W.frozen? ⟨x, 0, none⟩ := fun x hx => hg.frozen_far ⟨x, 0, none⟩ (by simp only; omega) (hn x hx)
  have hne : ∀ x, W.ownsRow b 53 2 x r.length (flatD r) → ∀ g, x.ownBlock = some g → v.ownBlock ≠ some g := fun x hx g e => owns_ne hx h.own (by decide) e
  have hf0 := h.fin.snoc hu (Nat.le_refl _)
  have hf := (hf0.grown hg (fun x hx g e => by
    obtain ⟨j, r', _, _, hr'⟩ := hf0.at_ hx
    exact owns_ne hr' h.own (by decide) e)).mono hg.size
  refine ⟨(h.below.grown hg h.below.size (fun j e => by have := hr j e; omega)).setCell (p := ⟨BO, 0, none⟩) c.wo _, by simpa using Nat.le_trans hs hg.size, (far W' c.n1 _).trans ((k _ q1).trans h.ev), World.cell?_setCell_same _ _ _ ((k _ q2).trans h.out), by simpa using (f _ q2).trans h.fo, (far W' c.na _).trans ((k _ q3).trans h.att), (far W' c.nk _).trans ((k _ q4).trans h.kd), ?_, ?_, (h.atts.grown hg (fun z ad e q => by have := hr _ q; have := (c.at_ z ad e).1; omega)).set' (fun z ad e => (c.at_ z ad e).2) _⟩
  · rw [List.length_append, List.length_singleton]
    exact owns_set ho (by simpa using q2) _
  · have := hf.set (p := ⟨BO, 0, none⟩) (fun x hx e => by
      obtain ⟨j, r', _, _, hr'⟩ := hf.at_ hx
      have := (hr'.lt _ e).1
      simp only at this
      omega) v'
    simpa using this
end
end Go.Proofs.YtdfconiahfdhbaaDoor
