/-
  The attempts of a trace, in plain terms.
-/
import Derived.Test.YtdfconiahfdhbaaDoorEvt
namespace Go.Proofs.YtdfconiahfdhbaaDoor

structure At where
  fr : Nat
  tt : Nat
  task : Int
  com : Bool
def actE (e : Ev) : Bool := decide (e.kind = 4) || decide (e.kind = 12) || decide (e.kind = 11)
def comK (e : Ev) : Bool := decide (e.kind = 5)
/-- an attempt begins with such an event -/
def begE (e : Ev) : Bool := actE e || comK e
theorem act_not_com {e : Ev} (h : actE e = true) : comK e = false := by
  unfold actE at h
  unfold comK
  simp at *
  omega
def goesA (l : List Ev) (t : Int) (k : Nat) : Bool := match l[k]? with | some e => actE e && decide (e.task = t) | none => false
def comA (l : List Ev) (t : Int) (k : Nat) : Bool := match l[k]? with | some e => comK e && decide (e.task = t) | none => false
def endF (l : List Ev) (t : Int) : Nat → Nat → Nat
  | 0, k => k
  | f + 1, k => if goesA l t k then endF l t f (k + 1) else k
structure IsEnd (l : List Ev) (t : Int) (i k : Nat) : Prop where
  le : i ≤ k
  on : ∀ m, i ≤ m → m < k → goesA l t m = true
  off : goesA l t k = false
theorem goes_lt {l : List Ev} {t : Int} {k : Nat} (h : goesA l t k = true) : k < l.length := by
  unfold goesA at h
  split at h
  · rename_i e he
    exact (List.getElem?_eq_some_iff.1 he).1
  · cases h
theorem com_lt {l : List Ev} {t : Int} {k : Nat} (h : comA l t k = true) : k < l.length := by
  unfold comA at h
  split at h
  · rename_i e he
    exact (List.getElem?_eq_some_iff.1 he).1
  · cases h
theorem goes_at {l : List Ev} {t : Int} {k : Nat} {e : Ev} (h : l[k]? = some e) : goesA l t k = (actE e && decide (e.task = t)) := by unfold goesA; rw [h]
theorem com_at {l : List Ev} {t : Int} {k : Nat} {e : Ev} (h : l[k]? = some e) : comA l t k = (comK e && decide (e.task = t)) := by unfold comA; rw [h]
theorem goes_none {l : List Ev} {t : Int} {k : Nat} (h : l.length ≤ k) : goesA l t k = false := by unfold goesA; rw [List.getElem?_eq_none h]
theorem com_none {l : List Ev} {t : Int} {k : Nat} (h : l.length ≤ k) : comA l t k = false := by unfold comA; rw [List.getElem?_eq_none h]
theorem endF_end {l : List Ev} {t : Int} : ∀ (f i k : Nat), IsEnd l t i k → k - i ≤ f → endF l t f i = k
  | 0, i, k, h, hf => by have := h.le; unfold endF; omega
  | f + 1, i, k, h, hf => by
    unfold endF
    by_cases hik : i = k
    · subst hik
      rw [h.off]; rfl
    · have hlt : i < k := by have := h.le; omega
      rw [h.on i (Nat.le_refl _) hlt]
      exact endF_end f (i + 1) k ⟨hlt, fun m h1 h2 => h.on m (by omega) h2, h.off⟩ (by omega)
theorem isEnd_le {l : List Ev} {t : Int} {i k : Nat} (h : IsEnd l t i k) (hi : i ≤ l.length) : k ≤ l.length := by
  by_cases hk : k ≤ i
  · omega
  · have := goes_lt (h.on (k - 1) (by have := h.le; omega) (by omega))
    omega
theorem endF_is {l : List Ev} {t : Int} : ∀ (f i : Nat), l.length ≤ i + f → IsEnd l t i (endF l t f i)
  | 0, i, h => ⟨Nat.le_refl _, fun m h1 h2 => by unfold endF at h2; omega, goes_none h⟩
  | f + 1, i, h => by
    unfold endF
    cases hg : goesA l t i
    · exact ⟨Nat.le_refl _, fun m h1 h2 => by simp at h2; omega, by simpa using hg⟩
    · have ih := endF_is (l := l) (t := t) f (i + 1) (by omega)
      simp only [if_true]
      exact ⟨by have := ih.le; omega, fun m h1 h2 => by
        by_cases e : m = i
        · subst e; exact hg
        · exact ih.on m (by omega) h2, ih.off⟩
def mkA (l : List Ev) (i : Nat) (t : Int) : At := ⟨i, if comA l t (endF l t l.length i) then endF l t l.length i else endF l t l.length i - 1, t, comA l t (endF l t l.length i)⟩
def atsF (l : List Ev) : Nat → Nat → List At
  | 0, _ => []
  | f + 1, i => match l[i]? with
    | none => []
    | some e => if begE e then mkA l i e.task :: atsF l f ((mkA l i e.task).tt + 1) else atsF l f (i + 1)
def atsL (l : List Ev) (i : Nat) : List At := atsF l (l.length - i) i
theorem mkA_le {l : List Ev} {i : Nat} {e : Ev} (h : l[i]? = some e) (hb : begE e = true) : i ≤ (mkA l i e.task).tt ∧ (mkA l i e.task).tt < l.length := by
  have hi := (List.getElem?_eq_some_iff.1 h).1
  have H := endF_is (l := l) (t := e.task) l.length i (by omega)
  have hk := isEnd_le H (by omega)
  unfold mkA
  simp only
  cases hc : comA l e.task (endF l e.task l.length i)
  · simp only [Bool.false_eq_true, if_false]
    have hne : endF l e.task l.length i ≠ i := fun q => by
      have h1 := H.off
      rw [q] at h1 hc
      rw [goes_at h] at h1
      rw [com_at h] at hc
      unfold begE at hb
      simp at h1 hc hb
      rcases hb with hb | hb
      · rw [h1] at hb; cases hb
      · rw [hc] at hb; cases hb
    have := H.le
    omega
  · simp only [if_true]
    exact ⟨H.le, com_lt hc⟩
theorem atsF_fuel {l : List Ev} : ∀ (f f' i : Nat), l.length - i ≤ f → l.length - i ≤ f' → atsF l f i = atsF l f' i
  | 0, 0, i, _, _ => rfl
  | 0, f' + 1, i, h, _ => by
    have : l[i]? = none := List.getElem?_eq_none (by omega)
    unfold atsF; rw [this]
  | f + 1, 0, i, _, h => by
    have : l[i]? = none := List.getElem?_eq_none (by omega)
    unfold atsF; rw [this]
  | f + 1, f' + 1, i, h, h' => by
    unfold atsF
    cases he : l[i]? with
    | none => rfl
    | some e =>
      simp only
      have hi := (List.getElem?_eq_some_iff.1 he).1
      cases hb : begE e
      · simp only [Bool.false_eq_true, if_false]
        exact atsF_fuel f f' (i + 1) (by omega) (by omega)
      · simp only [if_true]
        have := (mkA_le he hb).1
        rw [atsF_fuel f f' ((mkA l i e.task).tt + 1) (by omega) (by omega)]
theorem atsL_end {l : List Ev} {i : Nat} (h : l.length ≤ i) : atsL l i = [] := by
  unfold atsL
  rw [Nat.sub_eq_zero_of_le h]; rfl
theorem atsL_skip {l : List Ev} {i : Nat} {e : Ev} (h : l[i]? = some e) (hb : begE e = false) : atsL l i = atsL l (i + 1) := by
  have hi := (List.getElem?_eq_some_iff.1 h).1
  unfold atsL
  rw [show l.length - i = (l.length - (i + 1)) + 1 from by omega]
  conv => lhs; unfold atsF
  rw [h]
  simp only [hb, Bool.false_eq_true, if_false]
theorem atsL_take {l : List Ev} {i k : Nat} {e : Ev} {c : Bool} (h : l[i]? = some e) (hb : begE e = true) (hk : IsEnd l e.task i k) (hc : comA l e.task k = c) : atsL l i = ⟨i, if c then k else k - 1, e.task, c⟩ :: atsL l ((if c then k else k - 1) + 1) := by
  have hi := (List.getElem?_eq_some_iff.1 h).1
  have hkl := isEnd_le hk (by omega)
  have he := endF_end l.length i k hk (by omega)
  have hm : mkA l i e.task = ⟨i, if c then k else k - 1, e.task, c⟩ := by unfold mkA; rw [he, hc]
  have hle := mkA_le h hb
  rw [hm] at hle
  simp only at hle
  unfold atsL
  rw [show l.length - i = (l.length - (i + 1)) + 1 from by omega]
  conv => lhs; unfold atsF
  rw [h]
  simp only [hb, if_true, hm]
  rw [atsF_fuel _ (l.length - ((if c then k else k - 1) + 1)) _ (by omega) (by omega)]
theorem end_pos {l : List Ev} {i k : Nat} {e : Ev} (h : l[i]? = some e) (hb : begE e = true) (H : IsEnd l e.task i k) (hc : comA l e.task k = false) : i < k := by
  have hle := H.le
  by_cases q : i = k
  · subst q
    have h1 := H.off
    rw [goes_at h] at h1
    rw [com_at h] at hc
    unfold begE at hb
    simp at h1 hc hb
    rcases hb with hb | hb
    · rw [h1] at hb; cases hb
    · rw [hc] at hb; cases hb
  · omega
/-- the next attempt -/
structure Nxt (l : List Ev) (i : Nat) (a : At) (r : List At) : Prop where
  le : i ≤ a.fr
  no : ∀ m e, i ≤ m → m < a.fr → l[m]? = some e → begE e = false
  tt : a.fr ≤ a.tt
  lt : a.tt < l.length
  on : ∀ m e, a.fr ≤ m → m ≤ a.tt → l[m]? = some e → begE e = true ∧ e.task = a.task
  com : ∀ e, l[a.tt]? = some e → comK e = a.com
  rest : r = atsL l (a.tt + 1)
theorem atsL_cons {l : List Ev} {a : At} {r : List At} : ∀ (d i : Nat), d = l.length - i → atsL l i = a :: r → Nxt l i a r
  | 0, i, hd, h => by rw [atsL_end (by omega)] at h; cases h
  | d + 1, i, hd, h => by
    have hi : i < l.length := by omega
    have he := List.getElem?_eq_getElem hi
    generalize l[i] = e at *
    cases hb : begE e
    · rw [atsL_skip he hb] at h
      have N := atsL_cons d (i + 1) (by omega) h
      exact ⟨by have := N.le; omega, fun m x h1 h2 hm => by
        by_cases q : m = i
        · subst q; rw [he] at hm; cases hm; exact hb
        · exact N.no m x (by omega) h2 hm, N.tt, N.lt, N.on, N.com, N.rest⟩
    · have H := endF_is (l := l) (t := e.task) l.length i (by omega)
      obtain ⟨k, hk⟩ : ∃ k, endF l e.task l.length i = k := ⟨_, rfl⟩
      rw [hk] at H
      obtain ⟨c, hc⟩ : ∃ c, comA l e.task k = c := ⟨_, rfl⟩
      have hle := mkA_le he hb
      have hm : mkA l i e.task = ⟨i, if c then k else k - 1, e.task, c⟩ := by unfold mkA; rw [hk, hc]
      rw [hm] at hle
      simp only at hle
      rw [atsL_take he hb H hc] at h
      obtain ⟨rfl, rfl⟩ := List.cons.inj h
      refine ⟨Nat.le_refl _, fun m x h1 h2 hm => by simp only at h2; omega, hle.1, hle.2, fun m x h1 h2 hx => ?_, fun x hx => ?_, rfl⟩
      · simp only at h1 h2 ⊢
        by_cases hmk : m < k
        · have hg := H.on m h1 hmk
          rw [goes_at hx] at hg
          simp at hg
          exact ⟨by unfold begE; rw [hg.1]; rfl, hg.2⟩
        · cases c with
          | false => have := end_pos he hb H hc; simp at h2; omega
          | true =>
            simp at h2
            obtain rfl : m = k := by omega
            rw [com_at hx] at hc
            simp at hc
            exact ⟨by unfold begE; rw [hc.1]; simp, hc.2⟩
      · simp only at hx ⊢
        cases c with
        | true =>
          simp at hx
          rw [com_at hx] at hc
          simp at hc
          exact hc.1
        | false =>
          simp at hx hle
          have hp := end_pos he hb H hc
          have hik : i ≤ k - 1 ∧ k - 1 < k := by omega
          have hg := H.on (k - 1) hik.1 hik.2
          rw [goes_at hx] at hg
          simp at hg
          exact act_not_com hg.1
theorem atsL_nil {l : List Ev} : ∀ (d i : Nat), d = l.length - i → atsL l i = [] → ∀ m e, i ≤ m → l[m]? = some e → begE e = false
  | 0, i, hd, _, m, e, h1, h2 => by have := (List.getElem?_eq_some_iff.1 h2).1; omega
  | d + 1, i, hd, h, m, e, h1, h2 => by
    have hi : i < l.length := by omega
    have he := List.getElem?_eq_getElem hi
    generalize l[i] = x at *
    cases hb : begE x
    · rw [atsL_skip he hb] at h
      by_cases q : m = i
      · subst q; rw [he] at h2; cases h2; exact hb
      · exact atsL_nil d (i + 1) (by omega) h m e (by omega) h2
    · rw [atsL_take he hb (endF_is l.length i (by omega)) rfl] at h
      cases h
end Go.Proofs.YtdfconiahfdhbaaDoor
