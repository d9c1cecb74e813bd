/-
  The text of a list of changes, plainly: it is read in one way alone.
-/
import Derived.Test.YtgdaekjodhebfaaDoorLinp
namespace Go.Proofs.YtgdaekjodhebfaaDoor
open Go.RowKit

def txt (l : List (Int × Int)) : List UInt8 := l.flatMap lineT
theorem txt_nil : txt [] = [] := rfl
theorem txt_cons (x : Int × Int) (l : List (Int × Int)) : txt (x :: l) = lineT x ++ txt l := rfl
theorem txt_snoc (l : List (Int × Int)) (x : Int × Int) : txt (l ++ [x]) = txt l ++ lineT x := by unfold txt; simp
/-- no change that may follow stands at the head of the rest -/
def Stuck (l : List (Int × Int)) (rest : List UInt8) : Prop := ∀ x : Int × Int, B64 x.1 → B16 x.2 → validL (l ++ [x]) = true → ¬ lineT x <+: rest
theorem cut_uniq {c : UInt8} : ∀ {p q A B : List UInt8}, c ∉ p → c ∉ q → p ++ c :: A = q ++ c :: B → p = q ∧ A = B
  | [], [], A, B, _, _, h => ⟨rfl, by simpa using h⟩
  | [], y :: q, A, B, _, hq, h => by
    have := (List.cons.inj h).1
    exact absurd (by simp [this]) hq
  | x :: p, [], A, B, hp, _, h => by
    have := (List.cons.inj h).1
    exact absurd (by simp [this]) hp
  | x :: p, y :: q, A, B, hp, hq, h => by
    have h1 := (List.cons.inj h).1
    have h2 := cut_uniq (p := p) (q := q) (fun e => hp (by simp [e])) (fun e => hq (by simp [e])) (List.cons.inj h).2
    exact ⟨by rw [h1, h2.1], h2.2⟩
theorem line_uniq {x y : Int × Int} {A B : List UInt8} (h : lineT x ++ A = lineT y ++ B) : x = y ∧ A = B := by
  have e : ∀ (z : Int × Int) (C : List UInt8), lineT z ++ C = (Lib.itoa z.1 ++ [32] ++ Lib.itoa z.2) ++ 10 :: C := fun z C => by unfold lineT; simp
  rw [e, e] at h
  obtain ⟨h1, h2⟩ := cut_uniq (lineT_no10 x) (lineT_no10 y) h
  have f : ∀ z : Int × Int, Lib.itoa z.1 ++ [32] ++ Lib.itoa z.2 = Lib.itoa z.1 ++ 32 :: Lib.itoa z.2 := fun z => by simp
  rw [f, f] at h1
  obtain ⟨h3, h4⟩ := cut_uniq (itoa_no32 x.1) (itoa_no32 y.1) h1
  exact ⟨Prod.ext (Dec.itoa_inj h3) (Dec.itoa_inj h4), h2⟩
theorem validL_prefix {l m : List (Int × Int)} (h : validL (l ++ m) = true) : validL l = true := by
  unfold validL at *
  rw [vfrom_append, Bool.and_eq_true] at h
  exact h.1
def InB (l : List (Int × Int)) : Prop := ∀ x ∈ l, B64 x.1 ∧ B16 x.2
theorem txt_uniq : ∀ (l1 l2 pre : List (Int × Int)) (r1 r2 : List UInt8), InB l1 → InB l2 → txt l1 ++ r1 = txt l2 ++ r2 → validL (pre ++ l1) = true → validL (pre ++ l2) = true → (r1 = [] ∨ Stuck (pre ++ l1) r1) → (r2 = [] ∨ Stuck (pre ++ l2) r2) → l1 = l2 ∧ r1 = r2
  | [], [], pre, r1, r2, _, _, h, _, _, _, _ => ⟨rfl, by simpa [txt_nil] using h⟩
  | [], y :: l2, pre, r1, r2, _, b2, h, _, v2, s1, _ => by
    exfalso
    rw [txt_nil, List.nil_append, txt_cons, List.append_assoc] at h
    rcases s1 with rfl | s1
    · have := congrArg List.length h
      simp [lineT] at this
    · rw [List.append_nil] at s1
      have hb := b2 y (by simp)
      exact s1 y hb.1 hb.2 (validL_prefix (m := l2) (by rw [List.append_assoc]; exact v2)) ⟨_, h.symm⟩
  | x :: l1, [], pre, r1, r2, b1, _, h, v1, _, _, s2 => by
    exfalso
    rw [txt_nil, List.nil_append, txt_cons, List.append_assoc] at h
    rcases s2 with rfl | s2
    · have := congrArg List.length h
      simp [lineT] at this
    · rw [List.append_nil] at s2
      have hb := b1 x (by simp)
      exact s2 x hb.1 hb.2 (validL_prefix (m := l1) (by rw [List.append_assoc]; exact v1)) ⟨_, h⟩
  | x :: l1, y :: l2, pre, r1, r2, b1, b2, h, v1, v2, s1, s2 => by
    rw [txt_cons, txt_cons, List.append_assoc, List.append_assoc] at h
    obtain ⟨rfl, h2⟩ := line_uniq h
    have e : ∀ l : List (Int × Int), pre ++ x :: l = (pre ++ [x]) ++ l := fun l => by simp
    rw [e] at v1 v2 s1 s2
    obtain ⟨k1, k2⟩ := txt_uniq l1 l2 (pre ++ [x]) r1 r2 (fun z hz => b1 z (by simp [hz])) (fun z hz => b2 z (by simp [hz])) h2 v1 v2 s1 s2
    exact ⟨by rw [k1], k2⟩
/-- the first line: up to the first newline -/
theorem lineT_split (x : Int × Int) : ∃ p, lineT x = p ++ [10] ∧ (10 : UInt8) ∉ p := ⟨_, rfl, lineT_no10 x⟩
theorem idx10 {p q : List UInt8} (h : (10 : UInt8) ∉ p) : Lib.indexByte (p ++ 10 :: q) 10 = p.length := by
  induction p with
  | nil => rfl
  | cons b p ih =>
    have hb : ¬ b = 10 := fun e => h (by simp [e])
    have hi := ih (fun e => h (by simp [e]))
    rw [List.cons_append]
    unfold Lib.indexByte
    rw [hi]
    simp [hb]
theorem idx10_none {p : List UInt8} (h : (10 : UInt8) ∉ p) : Lib.indexByte p 10 = -1 := by
  induction p with
  | nil => rfl
  | cons b p ih =>
    have hb : ¬ b = 10 := fun e => h (by simp [e])
    have hi := ih (fun e => h (by simp [e]))
    unfold Lib.indexByte
    rw [hi]
    simp [hb]
/-- where the first line ends -/
theorem first_line (r : List UInt8) : (Lib.indexByte r 10 = -1 ∧ (10 : UInt8) ∉ r) ∨ ∃ k : Nat, Lib.indexByte r 10 = k ∧ k < r.length ∧ ∃ p q, r = p ++ 10 :: q ∧ (10 : UInt8) ∉ p ∧ p.length = k := by
  by_cases h : (10 : UInt8) ∈ r
  · obtain ⟨p, q, rfl, hp⟩ := List.eq_append_cons_of_mem h
    exact .inr ⟨p.length, idx10 hp, by simp, p, q, rfl, hp, rfl⟩
  · exact .inl ⟨idx10_none h, h⟩
theorem stuck_none {l : List (Int × Int)} {r : List UInt8} (h : (10 : UInt8) ∉ r) : Stuck l r := fun x _ _ _ hp => h (hp.subset (by unfold lineT; simp))
theorem stuck_line {l : List (Int × Int)} {p q : List UInt8} (hp : (10 : UInt8) ∉ p) (h : ∀ x : Int × Int, B64 x.1 → B16 x.2 → p ++ [10] ≠ lineT x) : Stuck l (p ++ 10 :: q) := fun x x1 x2 _ hx => by
  obtain ⟨t, ht⟩ := hx
  have e : lineT x ++ t = (Lib.itoa x.1 ++ [32] ++ Lib.itoa x.2) ++ 10 :: t := by unfold lineT; simp
  rw [e] at ht
  obtain ⟨h1, -⟩ := cut_uniq (lineT_no10 x) hp ht
  exact h x x1 x2 (by rw [← h1]; rfl)
theorem stuck_after {l : List (Int × Int)} {x : Int × Int} {q : List UInt8} (h : validL (l ++ [x]) = false) : Stuck l (lineT x ++ q) := fun y _ _ hv hy => by
  obtain ⟨t, ht⟩ := hy
  obtain ⟨rfl, -⟩ := line_uniq ht
  rw [h] at hv
  cases hv
end Go.Proofs.YtgdaekjodhebfaaDoor
