/-
  strings.Split of a text that was joined: plain mathematics.
-/
import Derived.Test.YtabfjiapoafgaaaDoorCut
import Derived.Lib.Split
import Derived.Lib.Join
namespace Go.Proofs.YtabfjiapoafgaaaDoor
open Go.Lib

theorem join_two (x y : List UInt8) (r : List (List UInt8)) (sep : List UInt8) : Lib.join (x :: y :: r) sep = x ++ (sep ++ Lib.join (y :: r) sep) := by
  simp [Lib.join_cons, Lib.joinTail]
theorem join_one (x : List UInt8) (sep : List UInt8) : Lib.join [x] sep = x := by simp [Lib.join_cons, Lib.joinTail]
theorem index_is (l sub : List UInt8) : Lib.index l sub = -1 ∨ ∃ i : Nat, Lib.index l sub = i := by
  by_cases h : Lib.index l sub = -1
  · exact .inl h
  · have h1 : -1 ≤ Lib.index l sub := by
      have := Lib.indexB_cases ⟨l.toArray⟩ ⟨sub.toArray⟩
      unfold Lib.indexB at this
      simp only at this
      rcases this with h | ⟨i, h, _⟩
      · exact absurd h (by assumption)
      · omega
    exact .inr ⟨(Lib.index l sub).toNat, by omega⟩
theorem splitK_len {sep : List UInt8} (hs : sep ≠ []) : ∀ (n : Nat) (s : List UInt8), s.length ≤ n → (splitK sep 0 (count s sep) s).length = count s sep + 1
  | n, s, hn => by
    rcases index_is s sep with h | ⟨i, h⟩
    · rw [count_miss h]; rfl
    · have hne : ¬ (Lib.index s sep == -1) = true := fun e => by have := beq_iff_eq.1 e; omega
      have hsh := drop_shorter hs hne
      have e : (Lib.index s sep).toNat = i := by omega
      rw [e] at hsh
      rw [count_hit hs h, Nat.add_comm 1]
      unfold splitK
      rw [if_neg hne, e, List.length_cons]
      match n, hn with
      | 0, hn => omega
      | n + 1, hn => rw [splitK_len hs n _ (by omega)]
theorem splitK_join {c : UInt8} {r : List UInt8} : ∀ (xs : List (List UInt8)), xs ≠ [] → (∀ x ∈ xs, c ∉ x) → count (Lib.join xs (c :: r)) (c :: r) = xs.length - 1 ∧ ∀ k, xs.length - 1 ≤ k → splitK (c :: r) 0 k (Lib.join xs (c :: r)) = xs
  | [], h, _ => absurd rfl h
  | [x], _, hx => by
    have hi : Lib.index x (c :: r) = -1 := index_none_of (hx x (by simp))
    rw [join_one]
    refine ⟨count_miss hi, fun k _ => ?_⟩
    cases k with
    | zero => rfl
    | succ k => unfold splitK; rw [if_pos (beq_iff_eq.2 hi)]
  | x :: y :: t, _, hx => by
    have hi : Lib.index (x ++ (c :: r) ++ Lib.join (y :: t) (c :: r)) (c :: r) = x.length := index_at (hx x (by simp))
    obtain ⟨h1, h2⟩ := splitK_join (y :: t) (by simp) (fun z hz => hx z (by simp [hz]))
    have hd : (x ++ (c :: r) ++ Lib.join (y :: t) (c :: r)).drop (x.length + (c :: r).length) = Lib.join (y :: t) (c :: r) := by
      rw [List.append_assoc, ← List.drop_drop]; simp
    rw [join_two, ← List.append_assoc]
    refine ⟨?_, fun k hk => ?_⟩
    · rw [count_hit (by simp) hi, hd, h1]; simp; omega
    · cases k with
      | zero => simp at hk
      | succ k =>
        unfold splitK
        have hne : ¬ (Lib.index (x ++ (c :: r) ++ Lib.join (y :: t) (c :: r)) (c :: r) == -1) = true := fun e => by have := beq_iff_eq.1 e; omega
        have e : (Lib.index (x ++ (c :: r) ++ Lib.join (y :: t) (c :: r)) (c :: r)).toNat = x.length := by omega
        rw [if_neg hne, e, hd, h2 k (by simp at hk ⊢; omega)]
        simp
/-- the pieces as the shelf has them -/
def pieces (s sep : ByteArray) : List ByteArray := splitB sep 0 (countB s sep) s
theorem pieces_map (s sep : ByteArray) : (pieces s sep).map (·.data.toList) = splitK sep.data.toList 0 (count s.data.toList sep.data.toList) s.data.toList := splitB_data sep 0 _ s
theorem pieces_len (s sep : ByteArray) (h : sep.data.toList ≠ []) : (pieces s sep).length = countB s sep + 1 := by
  have := congrArg List.length (pieces_map s sep)
  rw [List.length_map, splitK_len h _ _ (Nat.le_refl _)] at this
  exact this
theorem bytes_inj {x y : ByteArray} (h : x.data.toList = y.data.toList) : x = y := by
  apply ByteArray.ext
  exact Array.toList_inj.1 h
theorem map_data_inj : ∀ {l m : List ByteArray}, l.map (·.data.toList) = m.map (·.data.toList) → l = m
  | [], [], _ => rfl
  | [], _ :: _, h => by simp at h
  | _ :: _, [], h => by simp at h
  | x :: l, y :: m, h => by
    simp only [List.map_cons, List.cons.injEq] at h
    rw [bytes_inj h.1, map_data_inj h.2]
theorem splitB_size (sep : ByteArray) : ∀ (k : Nat) (s : ByteArray), ∀ x ∈ splitB sep 0 k s, x.size ≤ s.size
  | 0, s, x, h => by rw [splitB_zero] at h; simp at h; rw [h]; exact Nat.le_refl _
  | k + 1, s, x, h => by
    unfold splitB at h
    split at h
    · simp at h; rw [h]; exact Nat.le_refl _
    · rcases List.mem_cons.1 h with h | h
      · rw [h, ByteArray.size_extract]; omega
      · have := splitB_size sep k _ x h
        rw [ByteArray.size_extract] at this
        omega
theorem pieces_size {s sep x : ByteArray} (h : x ∈ pieces s sep) : x.size ≤ s.size := splitB_size sep _ s x h
theorem pieces_join {c : UInt8} {r : List UInt8} {s sep : ByteArray} {xs : List ByteArray} (hsep : sep.data.toList = c :: r) (hne : xs ≠ []) (hx : ∀ x ∈ xs, c ∉ x.data.toList) (hs : s.data.toList = Lib.join (xs.map (·.data.toList)) (c :: r)) : pieces s sep = xs := by
  obtain ⟨h1, h2⟩ := splitK_join (c := c) (r := r) (xs.map (·.data.toList)) (by simpa using hne) (by
    intro x hx'
    obtain ⟨y, hy, rfl⟩ := List.mem_map.1 hx'
    exact hx y hy)
  apply map_data_inj
  rw [pieces_map, hsep, hs]
  exact h2 _ (by rw [h1]; exact Nat.le_refl _)
end Go.Proofs.YtabfjiapoafgaaaDoor
