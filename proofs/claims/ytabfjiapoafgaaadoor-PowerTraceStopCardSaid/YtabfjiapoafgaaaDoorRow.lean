/-
  Slices of slices of periods in memory.
-/
import Derived.Test.YtabfjiapoafgaaaDoorGen
namespace Go.Proofs.YtabfjiapoafgaaaDoor
open Go.RowKit
set_option linter.unusedVariables false

theorem owns_ne {w : World} {b1 e1 s1 n1 b2 e2 s2 n2 : Nat} {v1 v2 : Value} {x1 x2 : List Value} (h1 : w.ownsRow b1 e1 s1 v1 n1 x1) (h2 : w.ownsRow b2 e2 s2 v2 n2 x2) (he : e1 ≠ e2) {g : Nat} (hg : v1.ownBlock = some g) : v2.ownBlock ≠ some g := fun q => by
  rcases h1.2 with ⟨rfl, _⟩ | ⟨g1, c1, cur1, rfl, _, hh1, _⟩
  · simp [Value.ownBlock] at hg
  · rcases h2.2 with ⟨rfl, _⟩ | ⟨g2, c2, cur2, rfl, _, hh2, _⟩
    · simp [Value.ownBlock] at q
    · have e1' : g1 = g := by simpa [Value.ownBlock] using hg
      have e2' : g2 = g := by simpa [Value.ownBlock] using q
      subst e1'
      subst e2'
      rw [hh1] at hh2
      cases hh2
      exact he rfl
theorem owns_mono {w : World} {b b' e s n : Nat} {v : Value} {x : List Value} (h : w.ownsRow b e s v n x) (hb : b' ≤ b) : w.ownsRow b' e s v n x := by
  obtain ⟨hl, h | ⟨g, cap, cur, hv, hg, hh⟩⟩ := h
  · exact ⟨hl, .inl h⟩
  · exact ⟨hl, .inr ⟨g, cap, cur, hv, Nat.le_trans hb hg, hh⟩⟩
/-- rows that are finished: they lie below B -/
structure Fin2 (b : Nat) (vs : List Value) (L : List (List (Int × Int))) (B : Nat) (W : World) : Prop where
  len : vs.length = L.length
  row : ∀ (j : Nat) x r, vs[j]? = some x → L[j]? = some r → W.ownsRow b 38 2 x r.length (flat r)
  lt : ∀ x ∈ vs, ∀ g, x.ownBlock = some g → g < B
section
variable {b B B' : Nat} {vs : List Value} {L : List (List (Int × Int))} {W W' : World}
theorem Fin2.nil (b B : Nat) (W : World) : Fin2 b [] [] B W := ⟨rfl, fun j x r h => (by simp at h), fun x h => (by cases h)⟩
theorem Fin2.next (h : Fin2 b vs L B W) (hb : Below W.heap.size W W') : Fin2 b vs L B W' := ⟨h.len, fun j x r h1 h2 => owns_below (h.row j x r h1 h2) hb, h.lt⟩
theorem Fin2.mono (h : Fin2 b vs L B W) (hB : B ≤ B') : Fin2 b vs L B' W := ⟨h.len, h.row, fun x hx g hg => Nat.lt_of_lt_of_le (h.lt x hx g hg) hB⟩
theorem Fin2.at_ (h : Fin2 b vs L B W) {x : Value} (hx : x ∈ vs) : ∃ (j : Nat) (r : List (Int × Int)), vs[j]? = some x ∧ L[j]? = some r ∧ W.ownsRow b 38 2 x r.length (flat r) := by
  obtain ⟨j, hj, rfl⟩ := List.getElem_of_mem hx
  have h1 := List.getElem?_eq_getElem hj
  have h2 := List.getElem?_eq_getElem (by rw [← h.len]; exact hj : j < L.length)
  exact ⟨j, _, h1, h2, h.row j _ _ h1 h2⟩
/-- a write to a row that is none of these -/
theorem Fin2.grown (h : Fin2 b vs L B W) {row : Option Nat} (hg : W.grownBy W' row) (hne : ∀ x ∈ vs, ∀ g, x.ownBlock = some g → row ≠ some g) : Fin2 b vs L B W' :=
  ⟨h.len, fun j x r h1 h2 => by
    refine (h.row j x r h1 h2).kept hg ?_
    cases q : x.ownBlock with
    | none => exact .inl rfl
    | some g => exact .inr (fun e => hne x (List.mem_of_getElem? h1) g q e.symm), h.lt⟩
theorem Fin2.set (h : Fin2 b vs L B W) {p : Addr} (hne : ∀ x ∈ vs, x.ownBlock ≠ some p.block) (u : Value) : Fin2 b vs L B (W.setCell p u) :=
  ⟨h.len, fun j x r h1 h2 => owns_set' (h.row j x r h1 h2) (hne x (List.mem_of_getElem? h1)) u, h.lt⟩
theorem Fin2.snoc (h : Fin2 b vs L B W) {u : Value} {r : List (Int × Int)} (hr : W.ownsRow b 38 2 u r.length (flat r)) (hB : B ≤ W.heap.size) : Fin2 b (vs ++ [u]) (L ++ [r]) W.heap.size W :=
  ⟨by simp [h.len], fun j x r' h1 h2 => by
    by_cases hj : j < vs.length
    · rw [List.getElem?_append_left hj] at h1
      rw [List.getElem?_append_left (by rw [← h.len]; exact hj)] at h2
      exact h.row j x r' h1 h2
    · rw [List.getElem?_append_right (by omega)] at h1
      rw [List.getElem?_append_right (by rw [← h.len]; omega), ← h.len] at h2
      have h0 : j - vs.length = 0 := by have := (List.getElem?_eq_some_iff.1 h1).1; simp at this; omega
      rw [h0] at h1 h2
      simp at h1 h2
      subst h1
      subst h2
      exact hr, fun x hx g hg => by
    rcases List.mem_append.1 hx with hx | hx
    · exact Nat.lt_of_lt_of_le (h.lt x hx g hg) hB
    · rw [List.mem_singleton.1 hx] at hg
      exact (hr.lt g hg).2⟩
end
/-- a slice of slices of readings -/
structure Rws (w : World) (A : Option Addr) (L : List (List (Int × Int))) : Prop where
  at_ : ∀ (j : Nat) r, L[j]? = some r → ∃ ad A' cap, A = some ad ∧ (ad.add j).block < w.heap.size ∧ w.cell? (ad.add j) = some (.slice A' r.length cap) ∧ Prs w A' r
theorem Rws.next {w w' : World} {A : Option Addr} {L : List (List (Int × Int))} (h : Rws w A L) (hb : Below w.heap.size w w') : Rws w' A L :=
  ⟨fun j r hj => by
    obtain ⟨ad, A', cap, ea, hl, hc, hr⟩ := h.at_ j r hj
    exact ⟨ad, A', cap, ea, Nat.lt_of_lt_of_le hl hb.size, (hb.cell hl).trans hc, hr.next hb⟩⟩
theorem Rws.of_own {w : World} {base b n B : Nat} {v : Value} {vs : List Value} {L : List (List (Int × Int))} (h : w.ownsRow base 22 1 v n vs) (f : Fin2 b vs L B w) : ∃ A cap, v = .slice A L.length cap ∧ Rws w A L := by
  have hn : L.length = n := by have := h.1; rw [← f.len]; omega
  have H := h
  obtain ⟨hl, ⟨rfl, hx⟩ | ⟨g, cap, cur, rfl, hg, hh, h1, h2, h3, h4⟩⟩ := h
  · have hn0 : L = [] := List.eq_nil_of_length_eq_zero (hn.trans hx)
    subst hn0
    exact ⟨none, 0, rfl, ⟨fun j x hj => by simp at hj⟩⟩
  · have hlt : g < w.heap.size := (Array.getElem?_eq_some_iff.1 hh).1
    refine ⟨_, cap, by rw [hn], ⟨fun j r hj => ?_⟩⟩
    have hjl : j < vs.length := by rw [f.len]; exact (List.getElem?_eq_some_iff.1 hj).1
    have hx := List.getElem?_eq_getElem hjl
    obtain ⟨A', cap', hv, -, hr⟩ := Prs.of_own (f.row j _ r hx hj)
    refine ⟨⟨g, 0, none⟩, A', cap', rfl, by unfold Addr.add; split <;> exact hlt, ?_, hr⟩
    rw [H.cells (g := g) rfl _ _ hx, hv]
/-- rows handed back -/
def GivesR (L : List (List (Int × Int))) (w : World) (e : Ending) (w' : World) : Prop := ∃ A cap, e = .returned (.slice A L.length cap) ∧ Rws w' A L ∧ Below w.heap.size w w'
end Go.Proofs.YtabfjiapoafgaaaDoor
