/-
  Lists of changes in memory.
-/
import Derived.Test.YtgdaekjodhebfaaDoorBase
import Derived.Test.YtgdaekjodhebfaaDoorAid
import Derived.Test.YtgdaekjodhebfaaDoorCut
import Derived.OwnWalk
import Derived.Laws.OwnMore
import Derived.Deep.AppendLies
import Derived.RegionTactic
import Derived.Deep.QuietTactic
import Derived.BigQuiet
import Derived.Deep.RegionHeld3
import Derived.Deep.Light
import Derived.Outline
import Derived.KernelRfl
namespace Go.Proofs.YtgdaekjodhebfaaDoor
open Go.RowKit

theorem block_of_add (a : Addr) (n : Nat) : (a.add n).block = a.block := by unfold Addr.add; split <;> rfl
theorem add_of_add (a : Addr) (i j : Nat) : (a.add i).add j = a.add (i + j) := by
  unfold Addr.add
  by_cases hi : i = 0 <;> by_cases hj : j = 0 <;> simp [hi, hj, Nat.add_assoc]
theorem add_one (a : Addr) : a.add 1 = ⟨a.block, a.off + 1, none⟩ := rfl
/-- a slice that reads as a list of changes -/
structure Chs (w : World) (A : Option Addr) (l : List (Int × Int)) : Prop where
  at_ : ∀ j x, l[j]? = some x → ∃ ad, A = some ad ∧ ad.block < w.heap.size ∧ w.cell? (ad.add (j * 2)) = some (.int .i64 x.1) ∧ w.cell? (ad.add (j * 2 + 1)) = some (.int .i16 x.2)
theorem Chs.next {w w1 : World} {A : Option Addr} {l : List (Int × Int)} (h : Chs w A l) (hb : Below w.heap.size w w1) : Chs w1 A l :=
  ⟨fun j x hj => by
    obtain ⟨ad, e, hlt, h1, h2⟩ := h.at_ j x hj
    exact ⟨ad, e, Nat.lt_of_lt_of_le hlt hb.size, (hb.cell (by rw [block_of_add]; exact hlt)).trans h1, (hb.cell (by rw [block_of_add]; exact hlt)).trans h2⟩⟩
theorem Chs.nil {w : World} (A : Option Addr) : Chs w A [] := ⟨fun j x hj => by simp at hj⟩
def flat (l : List (Int × Int)) : List Value := l.flatMap fun x => [.int .i64 x.1, .int .i16 x.2]
theorem flat_nil : flat [] = [] := rfl
theorem flat_cons (x : Int × Int) (l : List (Int × Int)) : flat (x :: l) = .int .i64 x.1 :: .int .i16 x.2 :: flat l := rfl
theorem flat_append (l m : List (Int × Int)) : flat (l ++ m) = flat l ++ flat m := by unfold flat; simp
theorem flat_len (l : List (Int × Int)) : (flat l).length = l.length * 2 := by
  induction l with
  | nil => rfl
  | cons x l ih => rw [flat_cons, List.length_cons, List.length_cons, List.length_cons, ih]; omega
theorem flat_at : ∀ (l : List (Int × Int)) (j : Nat) (x : Int × Int), l[j]? = some x → (flat l)[j * 2]? = some (.int .i64 x.1) ∧ (flat l)[j * 2 + 1]? = some (.int .i16 x.2)
  | [], j, x, h => by simp at h
  | y :: l, 0, x, h => by simp at h; subst h; exact ⟨rfl, rfl⟩
  | y :: l, j + 1, x, h => by
    have := flat_at l j x (by simpa using h)
    rw [flat_cons, show (j + 1) * 2 = j * 2 + 1 + 1 from by omega]
    simpa using this
theorem flat_one (l : List (Int × Int)) : ∀ u ∈ flat l, u.oneCell' = true := by
  intro u hu
  unfold flat at hu
  obtain ⟨x, -, hx⟩ := List.mem_flatMap.1 hu
  simp at hx
  rcases hx with rfl | rfl <;> rfl
theorem Chs.of_own {w : World} {base e n : Nat} {v : Value} {l : List (Int × Int)} (h : w.ownsRow base e 2 v n (flat l)) : ∃ A cap, v = .slice A l.length cap ∧ l.length ≤ cap ∧ Chs w A l := by
  have hn : l.length = n := by have := h.1; rw [flat_len] at this; omega
  have H := h
  obtain ⟨hl, ⟨rfl, hx⟩ | ⟨g, cap, cur, rfl, hg, hh, h1, h2, h3, h4⟩⟩ := h
  · have hn0 : l = [] := List.eq_nil_of_length_eq_zero (hn.trans hx)
    subst hn0
    exact ⟨none, 0, rfl, by simp, Chs.nil _⟩
  · have hlt : g < w.heap.size := (Array.getElem?_eq_some_iff.1 hh).1
    refine ⟨_, cap, by rw [hn], by omega, ⟨fun j x hj => ⟨⟨g, 0, none⟩, rfl, hlt, ?_⟩⟩⟩
    have hc := H.cells (g := g) rfl
    obtain ⟨e1, e2⟩ := flat_at l j x hj
    exact ⟨hc _ _ e1, hc _ _ e2⟩
/-- a list of changes handed back -/
def GivesC (l : List (Int × Int)) (w : World) (e : Ending) (w' : World) : Prop := ∃ A cap, e = .returned (.slice A l.length cap) ∧ Chs w' A l ∧ Below w.heap.size w w'
theorem info29 : (Tryd.prog.info? 29).map (fun i => (i.zero, i.size, i.bytes)) = some (some (.agg #[.int .i64 0, .int .i16 0]), 2, 16) := by kernel_rfl
theorem info32 : (Tryd.prog.info? 32).map (fun i => (i.zero, i.size, i.bytes)) = some (some (.agg #[.int .i64 0, .int .i16 0]), 2, 16) := by kernel_rfl
/-- a new block of a change -/
theorem new_change (w : World) (t v : Int) (e : TypeId) : (w.alloc (.cells #[.int .i64 t, .int .i16 v] e)).cell? ⟨w.heap.size, 0, none⟩ = some (.int .i64 t) ∧ (w.alloc (.cells #[.int .i64 t, .int .i16 v] e)).cell? ⟨w.heap.size, 1, none⟩ = some (.int .i16 v) := ⟨(World.cell?_alloc_at _ _ _ _ rfl).trans rfl, (World.cell?_alloc_at _ _ _ _ rfl).trans rfl⟩
theorem one_change (t v : Int) : ∀ u ∈ [Value.int .i64 t, .int .i16 v], u.oneCell' = true := by
  intro u hu
  simp at hu
  rcases hu with rfl | rfl <;> rfl
theorem news_change (w : World) (t v : Int) (e : TypeId) : ∀ (j : Nat) u, [Value.int .i64 t, .int .i16 v][j]? = some u → (w.alloc (.cells #[.int .i64 t, .int .i16 v] e)).cell? ((⟨w.heap.size, 0, none⟩ : Addr).add j) = some u := by
  intro j u hu
  match j with
  | 0 => simp at hu; subst hu; exact (new_change w t v e).1
  | 1 => simp at hu; subst hu; exact (new_change w t v e).2
  | j + 2 => simp at hu
set_option maxRecDepth 100000 in
set_option maxHeartbeats 1000000 in
theorem changes_c (l : List (Int × Int)) (hl : l.length ≤ 1000) (A : Option Addr) (cap : Nat) (w : World) (C : Chs w A l) : Calls Tryd.prog 14 #[.slice A l.length cap] w (GivesC l w) := by
  obtain ⟨i32, hi, hz0, hz1, hz2⟩ := info_parts info32
  have HC := Lib.hid C
  have hl3 : (l.length : Int) ≤ 1000 := by omega
  clear C
  go_enter Tryd.func14, Tryd.ntmps14
  go_wp2_with fail
  go_loopw [3, 8] (fun v i wr => ∃ k : Nat, k ≤ l.length ∧ i = .int .i64 k ∧ Below w.heap.size w wr ∧ wr.ownsRow w.heap.size 32 2 v k (flat (l.take k))) (fun _ i _ => l.length - (intOf i).toNat)
  case atStart => exact ⟨0, by omega, rfl, Below.refl _ _, World.ownsRow_nil _ _ _ _⟩
  case round =>
    obtain ⟨k, hk, rfl, hbr, hown⟩ := hrel
    have HB := Lib.hid hbr
    have hsz := hbr.size
    by_cases hlt : k < l.length
    · obtain ⟨ad, rfl, had, c0, c1⟩ := (HC.out.next hbr).at_ k _ (List.getElem?_eq_getElem hlt)
      rw [← add_of_add, add_one] at c1
      have HT := Lib.hid (show flat (l.take (k + 1)) = flat (l.take k) ++ [.int .i64 l[k].1, .int .i16 l[k].2] from by rw [List.take_succ_eq_append_getElem hlt, flat_append]; rfl)
      generalize l[k] = x at *
      have hnews := news_change (wr.alloc (.cells #[.int .i64 x.1, .int .i16 x.2] 29)) x.1 x.2 32
      rw [World.size_alloc] at hnews
      have HN := Lib.hid hnews
      clear hbr hnews
      go_wp2_with (at_builtin; refine wpList_append_own _ rfl (.tmp 12) (.tmp 18) 35 rfl w.heap.size 32 i32 (.agg #[.int .i64 0, .int .i16 0]) 2 16 Tryd.underlying35 hi hz0 hz1 hz2 rfl (by decide) _ _ _ rfl ((hown.alloc _).alloc _) ⟨wr.heap.size + 1, 0, none⟩ 1 1 [.int .i64 x.1, .int .i16 x.2] rfl rfl HN.out (one_change _ _) (by unfold maxLen; omega) (by omega) (by simp; omega) ?_; intro v1 w7 hown1 hgrow1 hnil1)
      go_roundw
      case rel =>
        refine ⟨k + 1, by omega, by go_num, ?_, by rw [HT.out]; exact hown1⟩
        exact ((HB.out.alloc (by omega) _).alloc (by simp; omega) _).grown hgrow1 (by simp; omega) (fun j hj => (hown.lt j hj).1)
      case measure => simp [intOf]; omega
    · obtain rfl : k = l.length := by omega
      rw [List.take_length] at hown
      go_wp2_with fail
      go_ret
      obtain ⟨A', cap', rfl, -, C'⟩ := Chs.of_own hown
      exact ⟨A', cap', rfl, C', hbr⟩
end Go.Proofs.YtgdaekjodhebfaaDoor
