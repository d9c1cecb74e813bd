/-
  What the attempts of a trace cover: the counts, and the state of TraceAttemptsCover.
-/
import Derived.Test.YtdfconiahfdhbaaDoorAtm
import Derived.Laws.OwnMore
namespace Go.Proofs.YtdfconiahfdhbaaDoor
open Go.RowKit

def begAt (l : List Ev) (m : Nat) : Bool := match l[m]? with | some e => begE e | none => false
theorem begAt_of {l : List Ev} {m : Nat} {e : Ev} (h : l[m]? = some e) : begAt l m = begE e := by unfold begAt; rw [h]
/-- the counts when the events below p have been looked at -/
def covL (l : List Ev) (p : Nat) : List Value := (List.range l.length).map fun m => .int .i64 (if decide (m < p) && begAt l m then 1 else 0)
theorem covL_len (l : List Ev) (p : Nat) : (covL l p).length = l.length := by unfold covL; simp
theorem covL_at (l : List Ev) (p : Nat) {m : Nat} (h : m < l.length) : (covL l p)[m]? = some (.int .i64 (if decide (m < p) && begAt l m then 1 else 0)) := by
  unfold covL
  rw [List.getElem?_map, List.getElem?_range h]; rfl
theorem covL_zero (l : List Ev) : covL l 0 = List.replicate l.length (.int .i64 0) := by
  apply List.ext_getElem?
  intro m
  by_cases h : m < l.length
  · rw [covL_at l 0 h, List.getElem?_replicate, if_pos h]; simp
  · rw [List.getElem?_eq_none (by rw [covL_len]; omega), List.getElem?_eq_none (by simp; omega)]
theorem covL_skip {l : List Ev} {p q : Nat} (hpq : p ≤ q) (h : ∀ m e, p ≤ m → m < q → l[m]? = some e → begE e = false) : covL l q = covL l p := by
  apply List.ext_getElem?
  intro m
  by_cases hm : m < l.length
  · rw [covL_at l q hm, covL_at l p hm]
    by_cases h1 : m < p
    · simp [h1, show m < q from by omega]
    · by_cases h2 : m < q
      · have he := List.getElem?_eq_getElem hm
        have hb := h m _ (by omega) h2 he
        rw [← begAt_of he] at hb
        simp [h1, h2, hb]
      · simp [h1, h2]
  · rw [List.getElem?_eq_none (by rw [covL_len]; omega), List.getElem?_eq_none (by rw [covL_len]; omega)]
theorem covL_step {l : List Ev} {p : Nat} (h : begAt l p = true) : covL l (p + 1) = (covL l p).set p (.int .i64 1) := by
  apply List.ext_getElem?
  intro m
  rw [List.getElem?_set]
  by_cases hm : m < l.length
  · rw [covL_at l (p + 1) hm]
    by_cases hp : p = m
    · subst hp
      simp [h, covL_len, hm]
    · rw [if_neg hp, covL_at l p hm]
      simp only [show decide (m < p + 1) = decide (m < p) from by simp; omega]
  · rw [List.getElem?_eq_none (by rw [covL_len]; omega)]
    split
    · rename_i q
      subst q
      rw [if_neg (by rw [covL_len]; omega)]
    · rw [List.getElem?_eq_none (by rw [covL_len]; omega)]
/-- the counts in memory, and the attempts -/
structure CV (w0 : World) (l : List Ev) (p g : Nat) (A : Option Addr) (a0 : List At) (W : World) : Prop where
  below : Below w0.heap.size w0 W
  own : W.ownsRow w0.heap.size 3 1 (.slice (some ⟨g, 0, none⟩) l.length l.length) l.length (covL l p)
  ge : w0.heap.size ≤ g
  glt : g < W.heap.size
  atts : Atts W A a0
  ne : ∀ ad, A = some ad → ad.block ≠ g
section
variable {w0 W W' : World} {l : List Ev} {p g : Nat} {A : Option Addr} {a0 : List At}
theorem CV.next (h : CV w0 l p g A a0 W) (hb : Below W.heap.size W W') : CV w0 l p g A a0 W' := ⟨bt h.below hb, owns_below h.own hb, h.ge, Nat.lt_of_lt_of_le h.glt hb.size, h.atts.next hb, h.ne⟩
theorem CV.cell (h : CV w0 l p g A a0 W) {m : Nat} (hm : m < l.length) : W.cell? ⟨g, m, none⟩ = some (.int .i64 (if decide (m < p) && begAt l m then 1 else 0)) := by
  rw [h.own.cellAt m (by omega)]
  exact covL_at l p hm
theorem CV.frozen (h : CV w0 l p g A a0 W) (m : Nat) : W.frozen? ⟨g, m, none⟩ = false := h.own.frozenAt m
theorem Atts.set {A : Option Addr} {a0 : List At} {W : World} (h : Atts W A a0) {q : Addr} (hne : ∀ ad, A = some ad → ad.block ≠ q.block) (u : Value) : Atts (W.setCell q u) A a0 :=
  ⟨fun j e hj => by
    obtain ⟨ad, ea, H⟩ := h.at_ j e hj
    have hn := hne ad ea
    have hb : (ad.add (j * 4)).block = ad.block := by unfold Addr.add; split <;> rfl
    have k : ∀ a : Addr, a.block = ad.block → (W.setCell q u).cell? a = W.cell? a := fun a ha => World.cell?_setCell_other W _ _ u (fun e => hn (by rw [← ha, e]))
    exact ⟨ad, ea, ⟨by simpa using H.lt, (k _ hb).trans H.c0, (k ⟨(ad.add (j * 4)).block, (ad.add (j * 4)).off + 1, none⟩ hb).trans H.c1, (k ⟨(ad.add (j * 4)).block, (ad.add (j * 4)).off + 2, none⟩ hb).trans H.c2, (k ⟨(ad.add (j * 4)).block, (ad.add (j * 4)).off + 3, none⟩ hb).trans H.c3⟩⟩⟩
theorem CV.step (h : CV w0 l p g A a0 W) (hb : begAt l p = true) : CV w0 l (p + 1) g A a0 (W.setCell ⟨g, p, none⟩ (.int .i64 1)) :=
  ⟨h.below.setCell (p := ⟨g, p, none⟩) h.ge _, by rw [covL_step hb]; exact (h.own.stored p _).1, h.ge, by simpa using h.glt, h.atts.set (fun ad e => h.ne ad e) _, h.ne⟩
theorem CV.skip (h : CV w0 l p g A a0 W) {q : Nat} (hpq : p ≤ q) (hs : ∀ m e, p ≤ m → m < q → l[m]? = some e → begE e = false) : CV w0 l q g A a0 W := ⟨h.below, by rw [covL_skip hpq hs]; exact h.own, h.ge, h.glt, h.atts, h.ne⟩
end
theorem AX.far {X : Nat} {fr tt task : Int} {com : Bool} {W : World} (h : AX X fr tt task com W) {q : Addr} (hq : q.block ≠ X) (u : Value) : AX X fr tt task com (W.setCell q u) := by
  have k : ∀ i, (W.setCell q u).cell? ⟨X, i, none⟩ = W.cell? ⟨X, i, none⟩ := fun i => World.cell?_setCell_other W q _ u (fun e => hq (by rw [e]))
  exact ⟨by simpa using h.lt, (k 0).trans h.c0, (k 1).trans h.c1, (k 2).trans h.c2, (k 3).trans h.c3, fun i => by simpa using h.fz i⟩
end Go.Proofs.YtdfconiahfdhbaaDoor
