/-
  A meter, plainly: what Spend and Next do to a schedule's position.
-/
import Derived.Test.YtabfjiapoafgaaaDoorTxp
namespace Go.Proofs.YtabfjiapoafgaaaDoor

structure MS where
  k : Nat
  left : Int
  dark : Bool
  cnt : Nat
def energyAt (l : List (Int × Int)) (k : Nat) : Int := match l[k]? with | some p => p.1 | none => -1
def offAt (l : List (Int × Int)) (k : Nat) : Int := match l[k]? with | some p => p.2 | none => 0
def startM (l : List (Int × Int)) : MS := ⟨0, energyAt l 0, false, 0⟩
def spendM (l : List (Int × Int)) (s : MS) (n : Int) : MS × Bool :=
  if s.dark = true then (s, false) else if l.length ≤ s.k then (s, true) else if max n 0 ≤ s.left then (⟨s.k, s.left - max n 0, false, s.cnt⟩, true) else (⟨s.k, 0, true, s.cnt + 1⟩, false)
def nextM (l : List (Int × Int)) (s : MS) : MS × Int × Bool :=
  if s.dark = true then (⟨s.k + 1, energyAt l (s.k + 1), false, s.cnt⟩, offAt l s.k, true) else (s, 0, false)
theorem energyAt_lt {l : List (Int × Int)} {k : Nat} (h : k < l.length) : energyAt l k = l[k].1 := by unfold energyAt; rw [List.getElem?_eq_getElem h]
theorem energyAt_ge {l : List (Int × Int)} {k : Nat} (h : l.length ≤ k) : energyAt l k = -1 := by unfold energyAt; rw [List.getElem?_eq_none h]
theorem offAt_lt {l : List (Int × Int)} {k : Nat} (h : k < l.length) : offAt l k = l[k].2 := by unfold offAt; rw [List.getElem?_eq_getElem h]
/-- what is true of every state -/
structure MOk (l : List (Int × Int)) (s : MS) : Prop where
  le : s.k ≤ l.length
  dk : s.dark = true → s.k < l.length ∧ s.left = 0
  lf : s.dark = false → (s.k < l.length → 0 ≤ s.left ∧ s.left ≤ 1073741824) ∧ (l.length ≤ s.k → s.left = -1)
  cnt : s.cnt = s.k + (if s.dark = true then 1 else 0)
theorem energy_in {l : List (Int × Int)} (hv : validL l = true) (k : Nat) : (k < l.length → 0 ≤ energyAt l k ∧ energyAt l k ≤ 1073741824) ∧ (l.length ≤ k → energyAt l k = -1) :=
  ⟨fun h => by rw [energyAt_lt h]; exact (validP_iff.1 (validL_at hv h)).1, fun h => energyAt_ge h⟩
theorem MOk.start {l : List (Int × Int)} (hv : validL l = true) : MOk l (startM l) := ⟨Nat.zero_le _, fun h => (by cases h), fun _ => energy_in hv 0, rfl⟩
theorem MOk.spend {l : List (Int × Int)} {s : MS} (h : MOk l s) (n : Int) : MOk l (spendM l s n).1 := by
  unfold spendM
  by_cases hd : s.dark = true
  · rw [if_pos hd]; exact h
  · rw [if_neg hd]
    have hd' : s.dark = false := by simpa using hd
    by_cases hk : l.length ≤ s.k
    · rw [if_pos hk]; exact h
    · rw [if_neg hk]
      have h1 := (h.lf hd').1 (by omega)
      have h2 := h.cnt
      rw [if_neg hd] at h2
      by_cases hn : max n 0 ≤ s.left
      · rw [if_pos hn]
        exact ⟨h.le, fun h => (by cases h), fun _ => ⟨fun _ => ⟨by show 0 ≤ s.left - max n 0; omega, by show s.left - max n 0 ≤ _; omega⟩, fun q => absurd q hk⟩, h2⟩
      · rw [if_neg hn]
        exact ⟨h.le, fun _ => ⟨by show s.k < _; omega, rfl⟩, fun h => (by cases h), by show s.cnt + 1 = s.k + 1; omega⟩
theorem MOk.next {l : List (Int × Int)} (hv : validL l = true) {s : MS} (h : MOk l s) : MOk l (nextM l s).1 := by
  unfold nextM
  by_cases hd : s.dark = true
  · rw [if_pos hd]
    have h1 := (h.dk hd).1
    have h2 := h.cnt
    rw [if_pos hd] at h2
    exact ⟨h1, fun h => (by cases h), fun _ => energy_in hv (s.k + 1), h2⟩
  · rw [if_neg hd]; exact h
end Go.Proofs.YtabfjiapoafgaaaDoor
