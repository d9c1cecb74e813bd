/-
  Copies of lists of changes: slices.Clone, Changes.
-/
import Derived.Test.YtgdaekjodhebfaaDoorTrc
import Derived.Laws.AppendOwnNone
import Derived.WalkSpells
namespace Go.Proofs.YtgdaekjodhebfaaDoor
open Go.RowKit

theorem Chs.cells {w : World} {ad : Addr} {l : List (Int × Int)} (h : Chs w (some ad) l) : ∀ (j : Nat) u, (flat l)[j]? = some u → w.cell? (ad.add j) = some u := by
  intro j u hu
  have hj : j < l.length * 2 := by rw [← flat_len]; exact (List.getElem?_eq_some_iff.1 hu).1
  have hi : j / 2 < l.length := by omega
  obtain ⟨ad', e, -, c0, c1⟩ := h.at_ (j / 2) _ (List.getElem?_eq_getElem hi)
  obtain rfl := Option.some.inj e
  obtain ⟨f0, f1⟩ := flat_at l (j / 2) _ (List.getElem?_eq_getElem hi)
  by_cases hp : j % 2 = 0
  · rw [show j / 2 * 2 = j from by omega] at f0 c0
    rw [f0] at hu
    rw [c0, hu]
  · rw [show j / 2 * 2 + 1 = j from by omega] at f1 c1
    rw [f1] at hu
    rw [c1, hu]
theorem Chs.none_nil {w : World} {l : List (Int × Int)} (h : Chs w none l) : l = [] := by
  cases l with
  | nil => rfl
  | cons x l => obtain ⟨ad, e, -⟩ := h.at_ 0 x rfl; cases e
theorem own_empty (w : World) (e size : Nat) : (w.alloc (.cells #[] e)).ownsRow w.heap.size e size (.slice (some ⟨w.heap.size, 0, none⟩) 0 0) 0 [] := by
  refine ⟨by simp, .inr ⟨w.heap.size, 0, #[], rfl, Nat.le_refl _, heap_alloc_new w _, Nat.le_refl _, ?_, ?_, ?_⟩⟩
  · simp
  · simp
  · simp
/-- a list of changes handed back in memory of the call's own -/
def GivesO (l : List (Int × Int)) (w : World) (e : Ending) (w' : World) : Prop := ∃ v, e = .returned v ∧ w'.ownsRow w.heap.size 29 2 v l.length (flat l) ∧ Below w.heap.size w w'
theorem GivesO.c {l : List (Int × Int)} {w w' : World} {e : Ending} (h : GivesO l w e w') : GivesC l w e w' := by
  obtain ⟨v, he, ho, hb⟩ := h
  obtain ⟨A, cap, rfl, -, C⟩ := Chs.of_own ho
  exact ⟨A, cap, he, C, hb⟩
set_option maxRecDepth 100000 in
theorem clone_o (l : List (Int × Int)) (hl : l.length ≤ 1000) (A : Option Addr) (cap : Nat) (w : World) (C : Chs w A l) : Calls Tryd.prog 27 #[.slice A l.length cap] w (GivesO l w) := by
  obtain ⟨i29, hi, hz0, hz1, hz2⟩ := info_parts info29
  have hl3 : (l.length : Int) ≤ 1000 := by omega
  have hnil := fun (W : World) => Lib.run_eql_slice_nil (P := Tryd.prog) W 22 29 A l.length cap 0 0 Tryd.underlying22
  cases A with
  | none =>
    have e := C.none_nil
    subst e
    have hnil2 := fun (W : World) => Lib.run_eql_slice_nil (P := Tryd.prog) W 22 29 none 0 cap 0 0 Tryd.underlying22
    clear hnil
    go_enter Tryd.func27, Tryd.ntmps27
    go_wp2_with fail
    go_ret
    exact ⟨_, rfl, World.ownsRow_nil _ _ _ _, Below.refl _ _⟩
  | some ad =>
    have hnews := (C.next (ba w (.cells #[] 29))).cells
    have HN := Lib.hid hnews
    have HW := Lib.hid (own_empty w 29 2)
    clear hnews C
    go_enter Tryd.func27, Tryd.ntmps27
    go_wp2_with (at_builtin; refine wpList_append_own _ rfl (.tmp 5) (.tmp 6) 22 rfl w.heap.size 29 i29 (.agg #[.int .i64 0, .int .i16 0]) 2 16 Tryd.underlying22 hi hz0 hz1 hz2 rfl (by decide) _ 0 [] rfl HW.out ad l.length cap (flat l) rfl (flat_len l) HN.out (flat_one l) (by unfold maxLen; omega) (by omega) (by simp) ?_; intro v1 w7 hown1 hgrow1 hnil1)
    go_ret
    have ho : w7.ownsRow w.heap.size 29 2 v1 l.length (flat l) := by simpa using hown1
    exact ⟨v1, rfl, ho, (ba w _).grown hgrow1 (by simp) (fun j hj => by have h2 : some w.heap.size = some j := hj; injection h2 with h2; omega)⟩
theorem tchanges_o (l : List (Int × Int)) (hl : l.length ≤ 1000) (tp : Nat) (w : World) (T : Trc w tp l) : Calls Tryd.prog 19 #[.pointer (some ⟨tp, 0, none⟩)] w (GivesO l w) := by
  obtain ⟨A, cap, hc, -, C⟩ := T.is
  clear T
  go_enter Tryd.func19, Tryd.ntmps19
  go_wp2_with fail
  refine (clone_o l hl A cap _ C).mono ?_
  rintro e w1 ⟨v, rfl, ho, hb⟩
  go_wp2_with fail
  go_ret
  exact ⟨v, rfl, ho, hb⟩
theorem tchanges_c (l : List (Int × Int)) (hl : l.length ≤ 1000) (tp : Nat) (w : World) (T : Trc w tp l) : Calls Tryd.prog 19 #[.pointer (some ⟨tp, 0, none⟩)] w (GivesC l w) := (tchanges_o l hl tp w T).mono fun _ _ h => h.c
end Go.Proofs.YtgdaekjodhebfaaDoor
