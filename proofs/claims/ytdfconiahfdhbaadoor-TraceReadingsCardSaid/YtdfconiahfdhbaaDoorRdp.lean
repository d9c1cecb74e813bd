/-
  The readings of a trace, in plain terms.
-/
import Derived.Test.YtdfconiahfdhbaaDoorAtp
namespace Go.Proofs.YtdfconiahfdhbaaDoor

abbrev Rd := Int × Int
def rdE (e : Ev) : List Rd := if e.kind = 4 then [(e.port, e.value)] else []
/-- the readings of the events from i on, below j -/
def rdR (l : List Ev) (i : Nat) : Nat → List Rd
  | 0 => []
  | d + 1 => rdR l i d ++ (match l[i + d]? with | some e => rdE e | none => [])
def rdA (l : List Ev) (a : At) : List Rd := rdR l a.fr (a.tt + 1 - a.fr)
theorem rdR_succ {l : List Ev} {i d : Nat} {e : Ev} (h : l[i + d]? = some e) : rdR l i (d + 1) = rdR l i d ++ rdE e := by
  show rdR l i d ++ (match l[i + d]? with | some e => rdE e | none => []) = _
  rw [h]
/-- what an execution that began at s used, of the attempts that ended below t -/
def use1 (l : List Ev) (s t : Nat) (a : At) : List Rd := if a.com && decide (s ≤ a.tt) && decide (a.tt < t) then rdA l a else []
def useL (l : List Ev) (as0 : List At) (s t : Nat) : List Rd := as0.flatMap (use1 l s t)
def contE (l : List Ev) (m : Nat) : Bool := match l[m]?, l[m - 1]? with | some e, some f => decide (e.kind ≠ 3) && decide (f.kind ≠ 6) | _, _ => false
structure RunTo (l : List Ev) (s t : Nat) : Prop where
  le : s + 1 ≤ t
  on : ∀ m, s + 1 ≤ m → m < t → contE l m = true
  off : contE l t = false
theorem cont_at {l : List Ev} {m : Nat} {e f : Ev} (h : l[m]? = some e) (h' : l[m - 1]? = some f) : contE l m = (decide (e.kind ≠ 3) && decide (f.kind ≠ 6)) := by unfold contE; rw [h, h']
theorem cont_none {l : List Ev} {m : Nat} (h : l.length ≤ m) : contE l m = false := by unfold contE; rw [List.getElem?_eq_none h]
theorem cont_lt {l : List Ev} {m : Nat} (h : contE l m = true) : m < l.length := by
  by_cases q : m < l.length
  · exact q
  · rw [cont_none (by omega)] at h; cases h
def runF (l : List Ev) : Nat → Nat → Nat
  | 0, t => t
  | f + 1, t => if contE l t then runF l f (t + 1) else t
/-- where an execution that began at s ends -/
def runTo (l : List Ev) (s : Nat) : Nat := runF l l.length (s + 1)
theorem runF_is {l : List Ev} : ∀ (f t : Nat), l.length ≤ t + f → t ≤ runF l f t ∧ (∀ m, t ≤ m → m < runF l f t → contE l m = true) ∧ contE l (runF l f t) = false
  | 0, t, h => ⟨Nat.le_refl _, fun m h1 h2 => by unfold runF at h2; omega, cont_none h⟩
  | f + 1, t, h => by
    unfold runF
    cases hc : contE l t
    · exact ⟨Nat.le_refl _, fun m h1 h2 => by simp at h2; omega, by simpa using hc⟩
    · obtain ⟨h1, h2, h3⟩ := runF_is (l := l) f (t + 1) (by omega)
      simp only [if_true]
      exact ⟨by omega, fun m a b => by
        by_cases e : m = t
        · subst e; exact hc
        · exact h2 m (by omega) b, h3⟩
theorem runTo_is (l : List Ev) (s : Nat) : RunTo l s (runTo l s) := by
  obtain ⟨h1, h2, h3⟩ := runF_is (l := l) l.length (s + 1) (by omega)
  exact ⟨h1, h2, h3⟩
theorem run_uniq {l : List Ev} {s t : Nat} (h : RunTo l s t) : t = runTo l s := by
  have H := runTo_is l s
  have h1 := h.le
  have h2 := H.le
  rcases Nat.lt_trichotomy t (runTo l s) with q | q | q
  · have := H.on t h.le q
    rw [h.off] at this; cases this
  · exact q
  · have := h.on _ H.le q
    rw [H.off] at this; cases this
theorem run_le {l : List Ev} {s m : Nat} (h : s + 1 ≤ m) (hc : contE l m = false) : runTo l s ≤ m := by
  have H := runTo_is l s
  by_cases q : runTo l s ≤ m
  · exact q
  · have := H.on m h (by omega)
    rw [hc] at this; cases this
theorem run_len {l : List Ev} {s : Nat} (h : s < l.length) : runTo l s ≤ l.length := run_le h (cont_none (Nat.le_refl _))
theorem run_gt {l : List Ev} {s m : Nat} (h : m ≤ runTo l s) (hc : contE l m = true) : m + 1 ≤ runTo l s := by
  have H := runTo_is l s
  by_cases q : m = runTo l s
  · rw [q, H.off] at hc; cases hc
  · omega
/-- where the executions begin, below i -/
def begsL (l : List Ev) : Nat → List Nat
  | 0 => []
  | i + 1 => match l[i]? with | some e => if e.kind = 3 then begsL l i ++ [i] else begsL l i | none => begsL l i
theorem begs_yes {l : List Ev} {i : Nat} {e : Ev} (h : l[i]? = some e) (hk : e.kind = 3) : begsL l (i + 1) = begsL l i ++ [i] := by
  show (match l[i]? with | some e => if e.kind = 3 then begsL l i ++ [i] else begsL l i | none => begsL l i) = _
  rw [h]; simp only; rw [if_pos hk]
theorem begs_no {l : List Ev} {i : Nat} {e : Ev} (h : l[i]? = some e) (hk : ¬ e.kind = 3) : begsL l (i + 1) = begsL l i := by
  show (match l[i]? with | some e => if e.kind = 3 then begsL l i ++ [i] else begsL l i | none => begsL l i) = _
  rw [h]; simp only; rw [if_neg hk]
theorem begs_lt {l : List Ev} : ∀ (i s : Nat), s ∈ begsL l i → s < i
  | 0, s, h => by cases h
  | i + 1, s, h => by
    have h' : s ∈ begsL l i ∨ s = i := by
      change s ∈ (match l[i]? with | some e => if e.kind = 3 then begsL l i ++ [i] else begsL l i | none => begsL l i) at h
      split at h
      · split at h
        · simpa using h
        · exact .inl h
      · exact .inl h
    rcases h' with h' | h'
    · have := begs_lt i s h'; omega
    · omega
theorem begs_len (l : List Ev) : ∀ i, (begsL l i).length ≤ i
  | 0 => Nat.le_refl _
  | i + 1 => by
    have := begs_len l i
    change (match l[i]? with | some e => if e.kind = 3 then begsL l i ++ [i] else begsL l i | none => begsL l i).length ≤ _
    split
    · split
      · simp; omega
      · omega
    · omega
/-- the readings, a row an execution -/
def rows (l : List Ev) (as0 : List At) (i : Nat) : List (List Rd) := (begsL l i).map fun s => useL l as0 s (runTo l s)
/-- what has been found of them when the events below i have been looked at -/
def rowsTo (l : List Ev) (as0 : List At) (i : Nat) : List (List Rd) := (begsL l i).map fun s => useL l as0 s (min i (runTo l s))
theorem rowsTo_all (l : List Ev) (as0 : List At) : rowsTo l as0 l.length = rows l as0 l.length := by
  unfold rowsTo rows
  apply List.map_congr_left
  intro s hs
  have := run_len (begs_lt _ _ hs)
  rw [Nat.min_eq_right this]
/-- is an execution on, after the events below i -/
structure Runs (l : List Ev) (i : Nat) (run : Bool) : Prop where
  off : run = false → ∀ s ∈ begsL l i, runTo l s ≤ i
  on : run = true → ∃ S s, begsL l i = S ++ [s] ∧ (∀ s' ∈ S, runTo l s' ≤ i) ∧ i ≤ runTo l s ∧ ∀ f, l[i - 1]? = some f → f.kind ≠ 6
theorem Runs.zero (l : List Ev) : Runs l 0 false := ⟨(fun _ s h => by cases h), (fun h => by cases h)⟩
/-- a start ends whatever ran -/
theorem Runs.start {l : List Ev} {i : Nat} {run : Bool} {e : Ev} (h : Runs l i run) (he : l[i]? = some e) (hk : e.kind = 3) : ∀ s ∈ begsL l i, runTo l s ≤ i := by
  cases run
  · exact h.off rfl
  · intro s hs
    refine run_le (begs_lt _ _ hs) ?_
    unfold contE
    rw [he]
    cases l[i - 1]? with
    | none => rfl
    | some f => simp [hk]
/-- the attempts end one behind the other -/
theorem ats_sorted {l : List Ev} : ∀ (d i : Nat), d = l.length - i → (atsL l i).Pairwise (fun a b => a.tt < b.tt) ∧ ∀ a ∈ atsL l i, i ≤ a.tt
  | 0, i, hd => by rw [atsL_end (by omega)]; exact ⟨List.Pairwise.nil, fun a h => by cases h⟩
  | d + 1, i, hd => by
    have hi : i < l.length := by omega
    have he := List.getElem?_eq_getElem hi
    generalize l[i] = e at *
    cases hb : begE e
    · rw [atsL_skip he hb]
      obtain ⟨h1, h2⟩ := ats_sorted (l := l) d (i + 1) (by omega)
      exact ⟨h1, fun a ha => by have := h2 a ha; omega⟩
    · cases hA : atsL l i with
      | nil => exact ⟨List.Pairwise.nil, fun a h => by cases h⟩
      | cons a r =>
        have N := atsL_cons (d + 1) i hd hA
        have hp : ∀ j, i < j → j ≤ l.length → (atsL l j).Pairwise (fun a b => a.tt < b.tt) ∧ ∀ a ∈ atsL l j, j ≤ a.tt := fun j h1 h2 => by
          obtain ⟨d', hd'⟩ : ∃ d', d' = l.length - j := ⟨_, rfl⟩
          have : d' ≤ d := by omega
          exact ats_sorted d' j hd'
        have h1 := N.le
        have h2 := N.tt
        have h3 := N.lt
        have h4 := N.rest
        obtain ⟨q1, q2⟩ := hp (a.tt + 1) (by omega) (by omega)
        rw [← h4] at q1 q2
        refine ⟨List.pairwise_cons.2 ⟨fun b hb => by have := q2 b hb; omega, q1⟩, fun b hb => ?_⟩
        rcases List.mem_cons.1 hb with rfl | hb
        · omega
        · have := q2 b hb; omega
  termination_by d => d
/-- the readings of the attempts that end at i -/
def at1 (l : List Ev) (i : Nat) (a : At) : List Rd := if a.com && decide (a.tt = i) then rdA l a else []
theorem useL_step (l : List Ev) (s i : Nat) (hs : s ≤ i) : ∀ as0 : List At, as0.Pairwise (fun a b => a.tt < b.tt) → useL l as0 s (i + 1) = useL l as0 s i ++ as0.flatMap (at1 l i)
  | [], _ => rfl
  | a :: r, h => by
    obtain ⟨h1, h2⟩ := List.pairwise_cons.1 h
    have ih := useL_step l s i hs r h2
    unfold useL at *
    rw [List.flatMap_cons, List.flatMap_cons, List.flatMap_cons, ih]
    by_cases q : a.tt < i
    · have e1 : use1 l s (i + 1) a = use1 l s i a := by unfold use1; simp [q, show a.tt < i + 1 from by omega]
      have e2 : at1 l i a = [] := by unfold at1; simp [show ¬ a.tt = i from by omega]
      rw [e1, e2]; simp
    · have e3 : ∀ t, t ≤ i + 1 → r.flatMap (use1 l s t) = [] := fun t ht => by
        rw [List.flatMap_eq_nil_iff]
        intro b hb
        have := h1 b hb
        unfold use1; simp [show ¬ b.tt < t from by omega]
      have e4 : r.flatMap (at1 l i) = [] := by
        rw [List.flatMap_eq_nil_iff]
        intro b hb
        have := h1 b hb
        unfold at1; simp [show ¬ b.tt = i from by omega]
      have e5 : use1 l s i a = [] := by unfold use1; simp [q]
      have e6 : use1 l s (i + 1) a = at1 l i a := by
        unfold use1 at1
        by_cases q2 : a.tt = i
        · simp [q2, hs]
        · simp [show ¬ a.tt < i + 1 from by omega, q2]
      rw [e3 i (by omega), e4, e5, e6]; simp
theorem useL_beg (l : List Ev) (as0 : List At) (s : Nat) : useL l as0 s s = [] := by
  unfold useL
  rw [List.flatMap_eq_nil_iff]
  intro b _
  unfold use1
  by_cases q : s ≤ b.tt
  · simp [show ¬ b.tt < s from by omega]
  · simp [q]
/-- the rows of executions that have ended stay -/
theorem rows_stay {l : List Ev} {as0 : List At} {i : Nat} : ∀ (S : List Nat), (∀ s ∈ S, runTo l s ≤ i) → S.map (fun s => useL l as0 s (min (i + 1) (runTo l s))) = S.map (fun s => useL l as0 s (min i (runTo l s))) := fun S h => by
  apply List.map_congr_left
  intro s hs
  have := h s hs
  rw [Nat.min_eq_right (by omega), Nat.min_eq_right this]
/-- one event looked at: what was there, and what the last row gains -/
structure Step (l : List Ev) (as0 : List At) (i : Nat) (e : Ev) (run : Bool) : Prop where
  /-- a start: a new row -/
  st : e.kind = 3 → ∃ L, rowsTo l as0 i = L ∧ rowsTo l as0 (i + 1) = L ++ [as0.flatMap (at1 l i)]
  /-- an event of what runs -/
  go : e.kind ≠ 3 → run = true → ∃ L r, rowsTo l as0 i = L ++ [r] ∧ rowsTo l as0 (i + 1) = L ++ [r ++ as0.flatMap (at1 l i)]
  /-- nothing runs -/
  no : e.kind ≠ 3 → run = false → rowsTo l as0 (i + 1) = rowsTo l as0 i
  /-- what runs behind it -/
  nx : ∀ run', run' = (if e.kind = 6 then false else if e.kind = 3 then true else run) → Runs l (i + 1) run'
theorem step_of {l : List Ev} {as0 : List At} (hs : as0.Pairwise (fun a b => a.tt < b.tt)) {i : Nat} {e : Ev} {run : Bool} (he : l[i]? = some e) (h : Runs l i run) : Step l as0 i e run := by
  have hi := (List.getElem?_eq_some_iff.1 he).1
  refine ⟨fun hk => ?_, fun hk hr => ?_, fun hk hr => ?_, fun run' hr => ?_⟩
  · have hold := h.start he hk
    refine ⟨_, rfl, ?_⟩
    unfold rowsTo
    rw [begs_yes he hk, List.map_append, rows_stay _ hold, List.map_singleton]
    have : i + 1 ≤ runTo l i := (runTo_is l i).le
    rw [Nat.min_eq_left this, useL_step l i i (Nat.le_refl _) as0 hs, useL_beg]
    rfl
  · obtain ⟨S, s, hb, hS, hle, hp⟩ := h.on hr
    have hsi := begs_lt i s (by rw [hb]; simp)
    have hf : ∃ f, l[i - 1]? = some f := ⟨_, List.getElem?_eq_getElem (by omega : i - 1 < l.length)⟩
    obtain ⟨f, hf⟩ := hf
    have hc : contE l i = true := by
      rw [cont_at he hf]
      simp [hk, hp f hf]
    have hgt := run_gt hle hc
    refine ⟨S.map (fun s => useL l as0 s (min i (runTo l s))), useL l as0 s i, ?_, ?_⟩
    · unfold rowsTo
      rw [hb, List.map_append, List.map_singleton, Nat.min_eq_left hle]
    · unfold rowsTo
      rw [begs_no he hk, hb, List.map_append, List.map_singleton, rows_stay _ hS, Nat.min_eq_left hgt, useL_step l s i (by omega) as0 hs]
  · unfold rowsTo
    rw [begs_no he hk, rows_stay _ (h.off hr)]
  · subst hr
    have hprev : ∀ f, l[i + 1 - 1]? = some f → f = e := fun f hf => by
      rw [Nat.add_sub_cancel, he] at hf
      exact (Option.some.inj hf).symm
    by_cases h6 : e.kind = 6
    · rw [if_pos h6]
      refine ⟨fun _ s hs => ?_, (fun q => by cases q)⟩
      rw [begs_no he (by omega)] at hs
      have hsi := begs_lt i s hs
      refine run_le (by omega) ?_
      unfold contE
      rw [Nat.add_sub_cancel, he]
      cases l[i + 1]? with
      | none => rfl
      | some f => simp [h6]
    · rw [if_neg h6]
      by_cases h3 : e.kind = 3
      · rw [if_pos h3]
        refine ⟨fun q => (by cases q), fun _ => ⟨begsL l i, i, begs_yes he h3, fun s hs => by have := h.start he h3 s hs; omega, (runTo_is l i).le, fun f hf => by rw [hprev f hf]; exact h6⟩⟩
      · rw [if_neg h3]
        refine ⟨fun q s hs => ?_, fun q => ?_⟩
        · rw [begs_no he h3] at hs
          have := h.off q s hs
          omega
        · obtain ⟨S, s, hb, hS, hle, hp⟩ := h.on q
          have hsi := begs_lt i s (by rw [hb]; simp)
          obtain ⟨f, hf⟩ : ∃ f, l[i - 1]? = some f := ⟨_, List.getElem?_eq_getElem (by omega : i - 1 < l.length)⟩
          have hc : contE l i = true := by
            rw [cont_at he hf]
            simp [h3, hp f hf]
          exact ⟨S, s, by rw [begs_no he h3, hb], fun s' h' => by have := hS s' h'; omega, run_gt hle hc, fun f hf => by rw [hprev f hf]; exact h6⟩
end Go.Proofs.YtdfconiahfdhbaaDoor
