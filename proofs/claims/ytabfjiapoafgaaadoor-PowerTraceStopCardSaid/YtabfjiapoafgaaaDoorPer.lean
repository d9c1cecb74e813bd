/-
  Lists of periods in memory.
-/
import Derived.Test.YtabfjiapoafgaaaDoorProg
import Derived.WalkKit
import Derived.WalkSmall
import Derived.Lib.Hide
import Derived.WalkLawsBesides
import Derived.Test.YtabfjiapoafgaaaDoorAid
import Derived.Test.YtabfjiapoafgaaaDoorCut
import Derived.OwnWalk
import Derived.Laws.OwnMore
import Derived.Deep.AppendLies
import Derived.RegionTactic
import Derived.Deep.QuietTactic
import Derived.BigQuiet
import Derived.Deep.RegionHeld3
import Derived.Deep.Light
import Derived.Outline
import Derived.KernelRfl
import Derived.Deep.DrawnRows
import Derived.Laws.OwnMore
import Derived.Laws.AppendOwnNone
import Derived.WalkSpells
namespace Go.Proofs.YtabfjiapoafgaaaDoor
open Go.RowKit

theorem block_of_add (a : Addr) (n : Nat) : (a.add n).block = a.block := by unfold Addr.add; split <;> rfl
theorem add_of_add (a : Addr) (i j : Nat) : (a.add i).add j = a.add (i + j) := by
  unfold Addr.add
  by_cases hi : i = 0 <;> by_cases hj : j = 0 <;> simp [hi, hj, Nat.add_assoc]
theorem add_one (a : Addr) : a.add 1 = ⟨a.block, a.off + 1, none⟩ := rfl
/-- a slice that reads as a list of periods -/
structure Prs (w : World) (A : Option Addr) (l : List (Int × Int)) : Prop where
  at_ : ∀ j x, l[j]? = some x → ∃ ad, A = some ad ∧ ad.block < w.heap.size ∧ w.cell? (ad.add (j * 2)) = some (.int .i64 x.1) ∧ w.cell? (ad.add (j * 2 + 1)) = some (.int .i64 x.2)
theorem Prs.next {w w1 : World} {A : Option Addr} {l : List (Int × Int)} (h : Prs w A l) (hb : Below w.heap.size w w1) : Prs w1 A l :=
  ⟨fun j x hj => by
    obtain ⟨ad, e, hlt, h1, h2⟩ := h.at_ j x hj
    exact ⟨ad, e, Nat.lt_of_lt_of_le hlt hb.size, (hb.cell (by rw [block_of_add]; exact hlt)).trans h1, (hb.cell (by rw [block_of_add]; exact hlt)).trans h2⟩⟩
theorem Prs.nil {w : World} (A : Option Addr) : Prs w A [] := ⟨fun j x hj => by simp at hj⟩
def flat (l : List (Int × Int)) : List Value := l.flatMap fun x => [.int .i64 x.1, .int .i64 x.2]
theorem flat_nil : flat [] = [] := rfl
theorem flat_cons (x : Int × Int) (l : List (Int × Int)) : flat (x :: l) = .int .i64 x.1 :: .int .i64 x.2 :: flat l := rfl
theorem flat_append (l m : List (Int × Int)) : flat (l ++ m) = flat l ++ flat m := by unfold flat; simp
theorem flat_len (l : List (Int × Int)) : (flat l).length = l.length * 2 := by
  induction l with
  | nil => rfl
  | cons x l ih => rw [flat_cons, List.length_cons, List.length_cons, List.length_cons, ih]; omega
theorem flat_at : ∀ (l : List (Int × Int)) (j : Nat) (x : Int × Int), l[j]? = some x → (flat l)[j * 2]? = some (.int .i64 x.1) ∧ (flat l)[j * 2 + 1]? = some (.int .i64 x.2)
  | [], j, x, h => by simp at h
  | y :: l, 0, x, h => by simp at h; subst h; exact ⟨rfl, rfl⟩
  | y :: l, j + 1, x, h => by
    have := flat_at l j x (by simpa using h)
    rw [flat_cons, show (j + 1) * 2 = j * 2 + 1 + 1 from by omega]
    simpa using this
theorem flat_one (l : List (Int × Int)) : ∀ u ∈ flat l, u.oneCell' = true := by
  intro u hu
  unfold flat at hu
  obtain ⟨x, -, hx⟩ := List.mem_flatMap.1 hu
  simp at hx
  rcases hx with rfl | rfl <;> rfl
theorem Prs.of_own {w : World} {base e n : Nat} {v : Value} {l : List (Int × Int)} (h : w.ownsRow base e 2 v n (flat l)) : ∃ A cap, v = .slice A l.length cap ∧ l.length ≤ cap ∧ Prs w A l := by
  have hn : l.length = n := by have := h.1; rw [flat_len] at this; omega
  have H := h
  obtain ⟨hl, ⟨rfl, hx⟩ | ⟨g, cap, cur, rfl, hg, hh, h1, h2, h3, h4⟩⟩ := h
  · have hn0 : l = [] := List.eq_nil_of_length_eq_zero (hn.trans hx)
    subst hn0
    exact ⟨none, 0, rfl, by simp, Prs.nil _⟩
  · have hlt : g < w.heap.size := (Array.getElem?_eq_some_iff.1 hh).1
    refine ⟨_, cap, by rw [hn], by omega, ⟨fun j x hj => ⟨⟨g, 0, none⟩, rfl, hlt, ?_⟩⟩⟩
    have hc := H.cells (g := g) rfl
    obtain ⟨e1, e2⟩ := flat_at l j x hj
    exact ⟨hc _ _ e1, hc _ _ e2⟩
/-- a list of periods handed back -/
def GivesC (l : List (Int × Int)) (w : World) (e : Ending) (w' : World) : Prop := ∃ A cap, e = .returned (.slice A l.length cap) ∧ Prs w' A l ∧ Below w.heap.size w w'
theorem info38 : (Tryd.prog.info? 38).map (fun i => (i.zero, i.size, i.bytes)) = some (some (.agg #[.int .i64 0, .int .i64 0]), 2, 16) := by kernel_rfl
theorem info22 : (Tryd.prog.info? 22).map (fun i => (i.zero, i.size, i.bytes)) = some (some (.slice none 0 0), 1, 24) := by kernel_rfl
theorem info9 : (Tryd.prog.info? 9).map (fun i => (i.zero, i.size, i.bytes)) = some (some (.string ⟨#[]⟩), 1, 16) := by kernel_rfl
/-- a new block of a period -/
theorem new_period (w : World) (t v : Int) (e : TypeId) : (w.alloc (.cells #[.int .i64 t, .int .i64 v] e)).cell? ⟨w.heap.size, 0, none⟩ = some (.int .i64 t) ∧ (w.alloc (.cells #[.int .i64 t, .int .i64 v] e)).cell? ⟨w.heap.size, 1, none⟩ = some (.int .i64 v) := ⟨(World.cell?_alloc_at _ _ _ _ rfl).trans rfl, (World.cell?_alloc_at _ _ _ _ rfl).trans rfl⟩
theorem one_period (t v : Int) : ∀ u ∈ [Value.int .i64 t, .int .i64 v], u.oneCell' = true := by
  intro u hu
  simp at hu
  rcases hu with rfl | rfl <;> rfl
theorem news_period (w : World) (t v : Int) (e : TypeId) : ∀ (j : Nat) u, [Value.int .i64 t, .int .i64 v][j]? = some u → (w.alloc (.cells #[.int .i64 t, .int .i64 v] e)).cell? ((⟨w.heap.size, 0, none⟩ : Addr).add j) = some u := by
  intro j u hu
  match j with
  | 0 => simp at hu; subst hu; exact (new_period w t v e).1
  | 1 => simp at hu; subst hu; exact (new_period w t v e).2
  | j + 2 => simp at hu
theorem Prs.cells {w : World} {ad : Addr} {l : List (Int × Int)} (h : Prs w (some ad) l) : ∀ (j : Nat) u, (flat l)[j]? = some u → w.cell? (ad.add j) = some u := by
  intro j u hu
  have hj : j < l.length * 2 := by rw [← flat_len]; exact (List.getElem?_eq_some_iff.1 hu).1
  have hi : j / 2 < l.length := by omega
  obtain ⟨ad', e, -, c0, c1⟩ := h.at_ (j / 2) _ (List.getElem?_eq_getElem hi)
  obtain rfl := Option.some.inj e
  obtain ⟨f0, f1⟩ := flat_at l (j / 2) _ (List.getElem?_eq_getElem hi)
  by_cases hp : j % 2 = 0
  · rw [show j / 2 * 2 = j from by omega] at f0 c0
    rw [f0] at hu
    rw [c0, hu]
  · rw [show j / 2 * 2 + 1 = j from by omega] at f1 c1
    rw [f1] at hu
    rw [c1, hu]
theorem Prs.none_nil {w : World} {l : List (Int × Int)} (h : Prs w none l) : l = [] := by
  cases l with
  | nil => rfl
  | cons x l => obtain ⟨ad, e, -⟩ := h.at_ 0 x rfl; cases e
theorem own_empty (w : World) (e size : Nat) : (w.alloc (.cells #[] e)).ownsRow w.heap.size e size (.slice (some ⟨w.heap.size, 0, none⟩) 0 0) 0 [] := by
  refine ⟨by simp, .inr ⟨w.heap.size, 0, #[], rfl, Nat.le_refl _, heap_alloc_new w _, Nat.le_refl _, ?_, ?_, ?_⟩⟩
  · simp
  · simp
  · simp
theorem owns_below {base : Nat} {e : TypeId} {size : Nat} {v : Value} {n : Nat} {xs : List Value} {w w1 : World} (h : w.ownsRow base e size v n xs) (hb : Below w.heap.size w w1) : w1.ownsRow base e size v n xs := by
  obtain ⟨hl, h | ⟨g, cap, cur, hv, hg, hh, h1, h2, h3, h4⟩⟩ := h
  · exact ⟨hl, .inl h⟩
  · have hlt : g < w.heap.size := (Array.getElem?_eq_some_iff.1 hh).1
    exact ⟨hl, .inr ⟨g, cap, cur, hv, hg, (hb.block g hlt).trans hh, h1, h2, h3, h4⟩⟩
theorem owns_set {base : Nat} {e : TypeId} {size : Nat} {v : Value} {n : Nat} {xs : List Value} {w : World} (h : w.ownsRow base e size v n xs) {p : Addr} (hp : p.block < base) (u : Value) : (w.setCell p u).ownsRow base e size v n xs := by
  obtain ⟨hl, h | ⟨g, cap, cur, hv, hg, hh, h1, h2, h3, h4⟩⟩ := h
  · exact ⟨hl, .inl h⟩
  · exact ⟨hl, .inr ⟨g, cap, cur, hv, hg, (Below.heap_setCell w p u g (by omega)).trans hh, h1, h2, h3, h4⟩⟩
/-- numbers in their type -/
def B64 (n : Int) : Prop := -9223372036854775808 ≤ n ∧ n ≤ 9223372036854775807
def InP (l : List (Int × Int)) : Prop := ∀ x ∈ l, B64 x.1 ∧ B64 x.2
end Go.Proofs.YtabfjiapoafgaaaDoor
