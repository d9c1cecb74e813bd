/-
  Lists of changes: which are traces, the value at a time, the next change. Plain mathematics.
-/
import Derived.Test.YtgdaekjodhebfaaDoorAid
namespace Go.Proofs.YtgdaekjodhebfaaDoor

def vfrom (p : Int) : List (Int × Int) → Bool
  | [] => true
  | x :: r => decide (p < x.1 ∧ x.1 ≤ 1099511627776) && vfrom x.1 r
def validL (l : List (Int × Int)) : Bool := vfrom (-1) l
def lastT (p : Int) : List (Int × Int) → Int
  | [] => p
  | x :: r => lastT x.1 r
theorem lastT_snoc (l : List (Int × Int)) (x : Int × Int) : ∀ p, lastT p (l ++ [x]) = x.1 := by
  induction l with
  | nil => intro p; rfl
  | cons y l ih => intro p; exact ih y.1
theorem vfrom_snoc (l : List (Int × Int)) (x : Int × Int) : ∀ p, vfrom p (l ++ [x]) = (vfrom p l && decide (lastT p l < x.1 ∧ x.1 ≤ 1099511627776)) := by
  induction l with
  | nil => intro p; rw [List.nil_append, vfrom, vfrom, vfrom, lastT, Bool.and_true, Bool.true_and]
  | cons y l ih => intro p; rw [List.cons_append, vfrom, ih, vfrom, lastT, Bool.and_assoc]
theorem vfrom_append (l m : List (Int × Int)) : ∀ p, vfrom p (l ++ m) = (vfrom p l && vfrom (lastT p l) m) := by
  induction l with
  | nil => intro p; simp [vfrom, lastT]
  | cons y l ih => intro p; rw [List.cons_append, vfrom, ih, vfrom, lastT, Bool.and_assoc]
theorem lastT_ge (l : List (Int × Int)) : ∀ p, vfrom p l = true → p ≤ lastT p l := by
  induction l with
  | nil => intro p _; exact Int.le_refl _
  | cons y l ih =>
    intro p h
    rw [vfrom, Bool.and_eq_true, decide_eq_true_iff] at h
    have := ih y.1 h.2
    rw [lastT]
    omega
theorem lastT_take {l : List (Int × Int)} {k : Nat} (hk : k < l.length) (p : Int) : lastT p (l.take (k + 1)) = l[k].1 := by rw [List.take_succ_eq_append_getElem hk, lastT_snoc]
theorem validL_take {l : List (Int × Int)} {k : Nat} (hk : k < l.length) : validL (l.take (k + 1)) = (validL (l.take k) && decide (lastT (-1) (l.take k) < l[k].1 ∧ l[k].1 ≤ 1099511627776)) := by
  unfold validL; rw [List.take_succ_eq_append_getElem hk, vfrom_snoc]
theorem validL_false {l : List (Int × Int)} {k : Nat} (h : validL (l.take k) = false) : validL l = false := by
  unfold validL at *
  rw [← List.take_append_drop k l, vfrom_append, h]; rfl
theorem vfrom_sorted (l : List (Int × Int)) : ∀ p, vfrom p l = true → (∀ x ∈ l, p < x.1 ∧ x.1 ≤ 1099511627776) ∧ l.Pairwise (fun x y => x.1 < y.1) := by
  induction l with
  | nil => intro p _; exact ⟨by simp, List.Pairwise.nil⟩
  | cons y l ih =>
    intro p h
    rw [vfrom, Bool.and_eq_true, decide_eq_true_iff] at h
    obtain ⟨h1, h2⟩ := ih y.1 h.2
    refine ⟨fun x hx => ?_, List.Pairwise.cons (fun x hx => (h1 x hx).1) h2⟩
    rcases List.mem_cons.1 hx with rfl | hx
    · exact h.1
    · have := h1 x hx; omega
theorem sorted_at {l : List (Int × Int)} (h : validL l = true) {i j : Nat} (hij : i < j) (hj : j < l.length) : l[i].1 < l[j].1 := by
  have := (vfrom_sorted l (-1) h).2
  exact List.pairwise_iff_getElem.1 this i j (by omega) hj hij
theorem bound_at {l : List (Int × Int)} (h : validL l = true) {i : Nat} (hi : i < l.length) : 0 ≤ l[i].1 ∧ l[i].1 ≤ 1099511627776 := by
  have := (vfrom_sorted l (-1) h).1 l[i] (List.getElem_mem hi)
  omega

def atL (l : List (Int × Int)) (t : Int) : Int := l.foldl (fun v x => if x.1 ≤ t then x.2 else v) 0
def nextL (l : List (Int × Int)) (t : Int) : Option (Int × Int) := l.find? (fun x => decide (t < x.1))
theorem atL_snoc (l : List (Int × Int)) (x : Int × Int) (t : Int) : atL (l ++ [x]) t = if x.1 ≤ t then x.2 else atL l t := by simp [atL]
theorem atL_take {l : List (Int × Int)} {k : Nat} (hk : k < l.length) (t : Int) : atL (l.take (k + 1)) t = if l[k].1 ≤ t then l[k].2 else atL (l.take k) t := by rw [List.take_succ_eq_append_getElem hk, atL_snoc]
theorem atL_in {l : List (Int × Int)} (hb : ∀ x ∈ l, -32768 ≤ x.2 ∧ x.2 ≤ 32767) (t : Int) : -32768 ≤ atL l t ∧ atL l t ≤ 32767 := by
  unfold atL
  suffices H : ∀ v : Int, -32768 ≤ v ∧ v ≤ 32767 → -32768 ≤ l.foldl (fun v x => if x.1 ≤ t then x.2 else v) v ∧ l.foldl (fun v x => if x.1 ≤ t then x.2 else v) v ≤ 32767 from H 0 (by decide)
  induction l with
  | nil => intro v h; exact h
  | cons x l ih =>
    intro v h
    rw [List.foldl_cons]
    refine ih (fun y hy => hb y (by simp [hy])) _ ?_
    split
    · exact hb x (by simp)
    · exact h
/-- how many changes are not after a time -/
structure Cnt (l : List (Int × Int)) (t : Int) (r : Nat) : Prop where
  le : r ≤ l.length
  lo : ∀ i (h : i < l.length), i < r → l[i].1 ≤ t
  hi : ∀ i (h : i < l.length), r ≤ i → t < l[i].1
theorem atL_drop (m : List (Int × Int)) (t : Int) (h : ∀ x ∈ m, t < x.1) : ∀ l, atL (l ++ m) t = atL l t := by
  induction m with
  | nil => intro l; rw [List.append_nil]
  | cons x m ih =>
    intro l
    have e : l ++ x :: m = (l ++ [x]) ++ m := by simp
    rw [e, ih (fun y hy => h y (by simp [hy])), atL_snoc, if_neg (by have := h x (by simp); omega)]
theorem Cnt.at_ {l : List (Int × Int)} {t : Int} {r : Nat} (h : Cnt l t r) : atL l t = if h0 : 0 < r then (l[r - 1]'(by have := h.le; omega)).2 else 0 := by
  have e : atL l t = atL (l.take r) t := by
    conv => lhs; rw [← List.take_append_drop r l]
    refine atL_drop _ _ (fun x hx => ?_) _
    obtain ⟨i, hi, rfl⟩ := List.getElem_of_mem hx
    rw [List.getElem_drop]
    exact h.hi _ _ (by omega)
  rw [e]
  have hl := h.le
  match r, h, hl with
  | 0, _, _ => rfl
  | r + 1, h, hl =>
    rw [atL_take (by omega), if_pos (h.lo r (by omega) (by omega))]
    simp
theorem Cnt.next {l : List (Int × Int)} {t : Int} {r : Nat} (h : Cnt l t r) : nextL l t = l[r]? := by
  unfold nextL
  by_cases hr : r < l.length
  · rw [List.getElem?_eq_getElem hr]
    rw [List.find?_eq_some_iff_getElem]
    refine ⟨by simpa using h.hi r hr (Nat.le_refl _), r, hr, rfl, fun j hj => ?_⟩
    have := h.lo j (by omega) hj
    simp; omega
  · rw [List.getElem?_eq_none (by omega), List.find?_eq_none]
    intro x hx
    obtain ⟨i, hi, rfl⟩ := List.getElem_of_mem hx
    have := h.lo i hi (by have := h.le; omega)
    simp; omega
theorem nextL_take {l : List (Int × Int)} {k : Nat} {t : Int} (hk : k < l.length) (h : nextL (l.take k) t = none) : (t < l[k].1 → nextL l t = some l[k]) ∧ (¬ t < l[k].1 → nextL (l.take (k + 1)) t = none) := by
  unfold nextL at *
  constructor
  · intro ht
    rw [List.find?_eq_some_iff_getElem]
    refine ⟨by simpa using ht, k, hk, rfl, fun j hj => ?_⟩
    rw [List.find?_eq_none] at h
    have := h l[j] (by rw [List.mem_iff_getElem]; exact ⟨j, by simp; omega, by simp⟩)
    simpa using this
  · intro ht
    rw [List.take_succ_eq_append_getElem hk, List.find?_append, h]
    simpa using ht
end Go.Proofs.YtgdaekjodhebfaaDoor
