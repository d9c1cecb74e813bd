/-
  Periods and the texts of schedules, plainly: a text is read in one way alone.
-/
import Derived.Test.YtabfjiapoafgaaaDoorSpl
import Derived.Lib.Hide
namespace Go.Proofs.YtabfjiapoafgaaaDoor

def validP (p : Int × Int) : Bool := decide ((0 ≤ p.1 ∧ p.1 ≤ 1073741824) ∧ (1 ≤ p.2 ∧ p.2 ≤ 1099511627776))
def validL (l : List (Int × Int)) : Bool := l.all validP
theorem validP_iff {p : Int × Int} : validP p = true ↔ (0 ≤ p.1 ∧ p.1 ≤ 1073741824) ∧ (1 ≤ p.2 ∧ p.2 ≤ 1099511627776) := by unfold validP; rw [decide_eq_true_iff]
theorem validL_take {l : List (Int × Int)} {k : Nat} (hk : k < l.length) : validL (l.take (k + 1)) = (validL (l.take k) && validP l[k]) := by
  unfold validL; rw [List.take_succ_eq_append_getElem hk, List.all_append]; simp
theorem validL_snoc (l : List (Int × Int)) (x : Int × Int) : validL (l ++ [x]) = (validL l && validP x) := by unfold validL; simp
theorem validL_false {l : List (Int × Int)} {k : Nat} (hk : k < l.length) (h : validP l[k] = false) : validL l = false := by
  unfold validL
  rw [List.all_eq_false]
  exact ⟨l[k], List.getElem_mem hk, by simp [h]⟩
theorem validL_at {l : List (Int × Int)} (h : validL l = true) {k : Nat} (hk : k < l.length) : validP l[k] = true := by
  unfold validL at h
  rw [List.all_eq_true] at h
  exact h _ (List.getElem_mem hk)
def wordT (p : Int × Int) : List UInt8 := Lib.itoa p.1 ++ [64] ++ Lib.itoa p.2
theorem itoa_dig (n : Int) (c : UInt8) (h : c ∈ Lib.itoa n) : c = 45 ∨ (48 ≤ c.toNat ∧ c.toNat ≤ 57) := by
  by_cases hn : n < 0
  · rw [Dec.itoa_neg hn] at h
    rcases List.mem_cons.1 h with h | h
    · exact .inl h
    · exact .inr (Dec.decDigits_dig _ _ h)
  · rw [Dec.itoa_nonneg (by omega)] at h
    exact .inr (Dec.decDigits_dig _ _ h)
theorem itoa_no32 (n : Int) : (32 : UInt8) ∉ Lib.itoa n := fun h => by
  rcases itoa_dig n 32 h with h | h
  · exact absurd h (by decide)
  · exact absurd h.1 (by decide)
theorem itoa_no64 (n : Int) : (64 : UInt8) ∉ Lib.itoa n := fun h => by
  rcases itoa_dig n 64 h with h | h
  · exact absurd h (by decide)
  · exact absurd h.2 (by decide)
theorem wordT_no32 (p : Int × Int) : (32 : UInt8) ∉ wordT p := by
  unfold wordT
  simp only [List.mem_append, not_or]
  exact ⟨⟨itoa_no32 _, by decide⟩, itoa_no32 _⟩
theorem cut_uniq {c : UInt8} : ∀ {p q A B : List UInt8}, c ∉ p → c ∉ q → p ++ c :: A = q ++ c :: B → p = q ∧ A = B
  | [], [], A, B, _, _, h => ⟨rfl, by simpa using h⟩
  | [], y :: q, A, B, _, hq, h => by
    have := (List.cons.inj h).1
    exact absurd (by simp [this]) hq
  | x :: p, [], A, B, hp, _, h => by
    have := (List.cons.inj h).1
    exact absurd (by simp [this]) hp
  | x :: p, y :: q, A, B, hp, hq, h => by
    have h1 := (List.cons.inj h).1
    have h2 := cut_uniq (p := p) (q := q) (fun e => hp (by simp [e])) (fun e => hq (by simp [e])) (List.cons.inj h).2
    exact ⟨by rw [h1, h2.1], h2.2⟩
theorem wordT_inj {x y : Int × Int} (h : wordT x = wordT y) : x = y := by
  unfold wordT at h
  rw [List.append_assoc, List.append_assoc] at h
  obtain ⟨h1, h2⟩ := cut_uniq (itoa_no64 _) (itoa_no64 _) h
  exact Prod.ext (Dec.itoa_inj h1) (Dec.itoa_inj h2)
/-- the words of a schedule, a space behind each -/
def txt (l : List (Int × Int)) : List UInt8 := l.flatMap fun p => wordT p ++ [32]
theorem txt_nil : txt [] = [] := rfl
theorem txt_cons (x : Int × Int) (l : List (Int × Int)) : txt (x :: l) = wordT x ++ 32 :: txt l := by
  show (wordT x ++ [32]) ++ txt l = _
  simp
theorem txt_snoc (l : List (Int × Int)) (x : Int × Int) : txt (l ++ [x]) = txt l ++ (wordT x ++ [32]) := by unfold txt; simp
theorem txt_len (l : List (Int × Int)) : l.length ≤ (txt l).length := by
  induction l with
  | nil => exact Nat.le_refl _
  | cons x l ih => rw [txt_cons]; simp; omega
/-- no valid word stands at the head of the rest -/
def Stuck (rest : List UInt8) : Prop := ∀ x : Int × Int, validP x = true → ¬ (wordT x ++ [32]) <+: rest
theorem stuck_word {p q : List UInt8} (hp : (32 : UInt8) ∉ p) (h : ∀ x : Int × Int, validP x = true → p ≠ wordT x) : Stuck (p ++ 32 :: q) := fun x hx hh => by
  obtain ⟨t, ht⟩ := hh
  rw [List.append_assoc] at ht
  exact h x hx (cut_uniq (wordT_no32 x) hp ht).1.symm
theorem txt_uniq : ∀ (l1 l2 : List (Int × Int)) (r1 r2 : List UInt8), validL l1 = true → validL l2 = true → txt l1 ++ r1 = txt l2 ++ r2 → (r1 = [] ∨ Stuck r1) → (r2 = [] ∨ Stuck r2) → l1 = l2 ∧ r1 = r2
  | [], [], r1, r2, _, _, h, _, _ => ⟨rfl, by simpa [txt_nil] using h⟩
  | [], y :: l2, r1, r2, _, v2, h, s1, _ => by
    exfalso
    rw [txt_nil, List.nil_append, txt_cons] at h
    have hv : validP y = true := validL_at v2 (k := 0) (by simp)
    rcases s1 with rfl | s1
    · have := congrArg List.length h
      simp at this
    · exact s1 y hv ⟨txt l2 ++ r2, by rw [h]; simp⟩
  | x :: l1, [], r1, r2, v1, _, h, _, s2 => by
    exfalso
    rw [txt_nil, List.nil_append, txt_cons] at h
    have hv : validP x = true := validL_at v1 (k := 0) (by simp)
    rcases s2 with rfl | s2
    · have := congrArg List.length h
      simp at this
    · exact s2 x hv ⟨txt l1 ++ r1, by rw [← h]; simp⟩
  | x :: l1, y :: l2, r1, r2, v1, v2, h, s1, s2 => by
    rw [txt_cons, txt_cons, List.append_assoc, List.append_assoc, List.cons_append, List.cons_append] at h
    obtain ⟨h1, h2⟩ := cut_uniq (wordT_no32 x) (wordT_no32 y) h
    have hxy := wordT_inj h1
    subst hxy
    unfold validL at v1 v2
    rw [List.all_cons, Bool.and_eq_true] at v1 v2
    obtain ⟨k1, k2⟩ := txt_uniq l1 l2 r1 r2 v1.2 v2.2 h2 s1 s2
    exact ⟨by rw [k1], k2⟩
/-- what is read of a text -/
def PRes (s : List UInt8) (l : List (Int × Int)) (n e : Int) : Prop :=
  (s = [] ∧ l = [] ∧ n = 0 ∧ e = 0) ∨ (s ≠ [] ∧ ∃ t rest, s ++ [32] = txt t ++ rest ∧ validL t = true ∧ ((rest = [] ∧ l = t ∧ n = 0 ∧ e = 0) ∨ (rest ≠ [] ∧ Stuck rest ∧ l = [] ∧ n = (t.length : Int) + 1 ∧ e = 2)))
theorem PRes.uniq {s : List UInt8} {l l' : List (Int × Int)} {n n' e e' : Int} (h : PRes s l n e) (h' : PRes s l' n' e') : l = l' ∧ n = n' ∧ e = e' := by
  rcases h with ⟨h0, rfl, rfl, rfl⟩ | ⟨h0, t, r, h1, h2, h3⟩
  · rcases h' with ⟨-, rfl, rfl, rfl⟩ | ⟨h0', -⟩
    · exact ⟨rfl, rfl, rfl⟩
    · exact absurd h0 h0'
  · rcases h' with ⟨h0', -⟩ | ⟨-, t', r', h1', h2', h3'⟩
    · exact absurd h0' h0
    · obtain ⟨rfl, rfl⟩ := txt_uniq t t' r r' h2 h2' (h1.symm.trans h1') (by
        rcases h3 with ⟨h, -⟩ | ⟨-, h, -⟩
        · exact .inl h
        · exact .inr h) (by
        rcases h3' with ⟨h, -⟩ | ⟨-, h, -⟩
        · exact .inl h
        · exact .inr h)
      rcases h3 with ⟨h, rfl, rfl, rfl⟩ | ⟨h, -, rfl, rfl, rfl⟩
      · rcases h3' with ⟨-, rfl, rfl, rfl⟩ | ⟨h', -⟩
        · exact ⟨rfl, rfl, rfl⟩
        · exact absurd h h'
      · rcases h3' with ⟨h', -⟩ | ⟨-, -, rfl, rfl, rfl⟩
        · exact absurd h' h
        · exact ⟨rfl, rfl, rfl⟩
def fmtT (l : List (Int × Int)) : List UInt8 := Lib.join (l.map wordT) [32]
theorem fmtT_txt : ∀ l : List (Int × Int), l ≠ [] → fmtT l ++ [32] = txt l
  | [], h => absurd rfl h
  | [x], _ => by unfold fmtT; rw [List.map_cons, List.map_nil, join_one, txt_cons, txt_nil]
  | x :: y :: l, _ => by
    have ih := fmtT_txt (y :: l) (by simp)
    unfold fmtT at ih ⊢
    rw [List.map_cons, List.map_cons, join_two, txt_cons, ← ih]
    simp
theorem fmtT_ne {l : List (Int × Int)} (h : l ≠ []) : fmtT l ≠ [] := fun e => by
  have h1 := fmtT_txt l h
  rw [e] at h1
  cases l with
  | nil => exact h rfl
  | cons x l =>
    rw [txt_cons] at h1
    have := congrArg List.length h1
    unfold wordT at this
    simp at this
    omega
/-- a valid schedule is read again -/
theorem PRes.of_fmt {l : List (Int × Int)} (h : validL l = true) : PRes (fmtT l) l 0 0 := by
  by_cases hl : l = []
  · subst hl; exact .inl ⟨rfl, rfl, rfl, rfl⟩
  · exact .inr ⟨fmtT_ne hl, l, [], by rw [fmtT_txt l hl, List.append_nil], h, .inl ⟨rfl, rfl, rfl, rfl⟩⟩
/-- what is read is written again -/
theorem PRes.fmt {s : List UInt8} {l : List (Int × Int)} {n : Int} (h : PRes s l n 0) : fmtT l = s ∧ validL l = true := by
  rcases h with ⟨rfl, rfl, -, -⟩ | ⟨h0, t, r, h1, h2, ⟨rfl, rfl, -, -⟩ | ⟨-, -, -, -, h⟩⟩
  · exact ⟨rfl, rfl⟩
  · rw [List.append_nil] at h1
    have hl : l ≠ [] := fun e => by subst e; rw [txt_nil] at h1; simp at h1
    rw [← fmtT_txt l hl] at h1
    exact ⟨(List.append_cancel_right h1).symm, h2⟩
  · exact absurd h (by decide)
/-- a text at its spaces -/
def splitP : List UInt8 → List (List UInt8)
  | [] => [[]]
  | c :: r => if c = 32 then [] :: splitP r else match splitP r with
    | [] => [[c]]
    | w :: ws => (c :: w) :: ws
theorem splitP_ne : ∀ s, splitP s ≠ []
  | [] => by simp [splitP]
  | c :: r => by
    unfold splitP
    split
    · simp
    · split <;> simp
theorem splitP_no : ∀ s, ∀ w ∈ splitP s, (32 : UInt8) ∉ w
  | [], w, h => by simp [splitP] at h; subst h; simp
  | c :: r, w, h => by
    have ih := splitP_no r
    unfold splitP at h
    split at h
    · rcases List.mem_cons.1 h with rfl | h
      · simp
      · exact ih w h
    · next hc =>
      split at h
      · next e => exact absurd e (splitP_ne r)
      · next w0 ws e =>
        rw [e] at ih
        rcases List.mem_cons.1 h with rfl | h
        · intro hm
          rcases List.mem_cons.1 hm with hm | hm
          · exact hc hm.symm
          · exact ih w0 (by simp) hm
        · exact ih w (by simp [h])
theorem splitP_join : ∀ s, Lib.join (splitP s) [32] = s
  | [] => by simp [splitP, join_one]
  | c :: r => by
    have ih := splitP_join r
    unfold splitP
    split
    · next hc =>
      cases e : splitP r with
      | nil => exact absurd e (splitP_ne r)
      | cons w ws => rw [join_two, ← e, ih, hc]; rfl
    · split
      · next e => exact absurd e (splitP_ne r)
      · next w ws e =>
        rw [e] at ih
        cases ws with
        | nil => rw [join_one] at ih ⊢; rw [ih]
        | cons y t => rw [join_two] at ih ⊢; rw [List.cons_append, ih]
theorem splitP_flat (s : List UInt8) : (splitP s).flatMap (fun w => w ++ [32]) = s ++ [32] := by
  have h : ∀ ws : List (List UInt8), ws ≠ [] → ws.flatMap (fun w => w ++ [32]) = Lib.join ws [32] ++ [32] := by
    intro ws
    induction ws with
    | nil => intro h; exact absurd rfl h
    | cons w t ih =>
      intro _
      cases t with
      | nil => rw [join_one]; simp
      | cons y t => rw [join_two, List.flatMap_cons, ih (by simp)]; simp
  rw [h _ (splitP_ne s), splitP_join]
/-- the shelf's pieces -/
theorem pieces_split (s : ByteArray) : pieces s ⟨#[32]⟩ = (splitP s.data.toList).map fun w => ⟨w.toArray⟩ := by
  refine pieces_join (c := 32) (r := []) rfl (by simpa using splitP_ne _) ?_ ?_
  · intro x hx
    obtain ⟨w, hw, rfl⟩ := List.mem_map.1 hx
    exact splitP_no _ w hw
  · rw [List.map_map]
    have : (fun b : ByteArray => b.data.toList) ∘ (fun w : List UInt8 => (⟨w.toArray⟩ : ByteArray)) = id := by funext w; rfl
    rw [this, List.map_id, splitP_join]
end Go.Proofs.YtabfjiapoafgaaaDoor
