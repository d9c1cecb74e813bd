/-
  The words of an event's line, and what the search for its kind finds: plain mathematics; ParseInt at 64 bits, whatever is found.
-/
import Derived.Test.YtdfconiahfdhbaaDoorRln
import Derived.Test.YtdfconiahfdhbaaDoorSpl
namespace Go.Proofs.YtdfconiahfdhbaaDoor
open Go.RowKit

theorem itoa_chars (n : Int) : ∀ c ∈ Lib.itoa n, c.toNat = 45 ∨ (48 ≤ c.toNat ∧ c.toNat ≤ 57) := by
  intro c h
  by_cases hn : n < 0
  · rw [Dec.itoa_neg hn] at h
    rcases List.mem_cons.1 h with h | h
    · exact .inl (by rw [h]; rfl)
    · exact .inr (by have := Dec.decDigits_dig _ c h; omega)
  · rw [Dec.itoa_nonneg (by omega)] at h
    exact .inr (by have := Dec.decDigits_dig _ c h; omega)
theorem itoa_no32 (n : Int) : (32 : UInt8) ∉ Lib.itoa n := fun h => by
  have := itoa_chars n _ h
  have e : (32 : UInt8).toNat = 32 := rfl
  omega
theorem itoa_no10 (n : Int) : (10 : UInt8) ∉ Lib.itoa n := fun h => by
  have := itoa_chars n _ h
  have e : (10 : UInt8).toNat = 10 := rfl
  omega
theorem kindW_no : ∀ k, k < 13 → (32 : UInt8) ∉ kindW k ∧ (10 : UInt8) ∉ kindW k := by decide
theorem parse64_itoa {n : Int} (h : B64 n) : Lib.parseIntB 64 (Lib.itoa n) = .ok n := Dec.parseIntB_itoa 64 n (by decide) (by decide) (by have := h.1; simp; omega) (by have := h.2; simp; omega)
/-- what ParseInt at 64 bits hands back -/
def P64 (s : ByteArray) (w : World) (e : Ending) (w' : World) : Prop := ∃ (n : Int) (E : Value), B64 n ∧ (E = .nilIface ∨ ∃ N, E = .iface 114 (.pointer (some ⟨N, 0, none⟩))) ∧ e = .returned (.tuple #[.int .i64 n, E]) ∧ Below w.heap.size w w' ∧ ∀ m, B64 m → s.data.toList = Lib.itoa m → n = m ∧ E = .nilIface
theorem parse64_any (s : ByteArray) (hs : s.size ≤ 140737488351232) (w : World) (hr : Ready w) :
    Calls Tryd.prog 50 #[.string s, .int .i64 10, .int .i64 64] w (P64 s w) := by
  by_cases h : ∃ v, Lib.parseIntB 64 s.data.toList = .ok v
  · obtain ⟨v, h⟩ := h
    have hb := Lib.parseIntB_bounds h
    exact (parse64_ok s hs v h w).mono fun _ _ ⟨he, hb'⟩ => ⟨v, _, ⟨by have := hb.1; simpa using this, by have := hb.2; simp at this; omega⟩, .inl rfl, he, hb', fun m hm e => by
      rw [e, parse64_itoa hm] at h
      injection h with h
      exact ⟨h.symm, rfl⟩⟩
  · exact (parse64_bad s hs (fun v e => h ⟨v, e⟩) w hr).mono fun _ _ ⟨n, N, h0, h1, he, hb⟩ => ⟨n, _, ⟨h0, h1⟩, .inr ⟨N, rfl⟩, he, hb, fun m hm e => absurd ⟨m, by rw [e, parse64_itoa hm]⟩ h⟩
/-- the kind that the search finds, below k -/
def scan (z : ByteArray) : Nat → Nat
  | 0 => 0
  | k + 1 => if knownB k && decide ((⟨(kindW k).toArray⟩ : ByteArray) = z) then k else scan z k
theorem scan_lt (z : ByteArray) : ∀ k, scan z k < k + 1
  | 0 => Nat.one_pos
  | k + 1 => by
    unfold scan
    split
    · omega
    · have := scan_lt z k; omega
theorem scan_13 (z : ByteArray) : scan z 13 < 13 := by
  unfold scan
  split
  · omega
  · exact scan_lt z 12
theorem kindW_inj : ∀ k, k < 13 → ∀ m, m < 13 → kindW k = kindW m → k = m := by decide
theorem scan_word {k : Nat} (h1 : 1 ≤ k) : ∀ m, k < m → m ≤ 13 → scan ⟨(kindW k).toArray⟩ m = k
  | 0, h, _ => by omega
  | m + 1, h, hm => by
    unfold scan
    by_cases e : m = k
    · subst e
      rw [if_pos]
      have hk : knownB (m : Int) = true := by simp only [knownB, decide_eq_true_iff]; omega
      rw [hk]; simp
    · rw [if_neg, scan_word h1 m (by omega) (by omega)]
      intro hq
      simp only [Bool.and_eq_true] at hq
      have := of_decide_eq_true hq.2
      have h3 := congrArg (fun b : ByteArray => b.data.toList) this
      simp only at h3
      exact e (kindW_inj m (by omega) k (by omega) h3)
theorem join_flat (x : List UInt8) (sep : List UInt8) : ∀ (l : List (List UInt8)), Lib.join (x :: l) sep = x ++ l.flatMap (fun y => sep ++ y)
  | [] => by rw [join_one]; simp
  | y :: l => by rw [join_two, join_flat y sep l]; simp
/-- the words of an event's line -/
def wordsE (e : Ev) : List ByteArray := ⟨(Lib.itoa e.time).toArray⟩ :: ⟨(kindW e.kind.toNat).toArray⟩ :: (flds e).map fun f => ⟨(Lib.itoa (getE e f)).toArray⟩
theorem lineN_join (e : Ev) : lineN e = Lib.join ((wordsE e).map (·.data.toList)) [32] := by
  unfold wordsE
  rw [List.map_cons, List.map_cons, join_flat, List.flatMap_cons, List.map_map]
  unfold lineN headE bodyE
  rw [List.flatMap_map]
  simp
theorem words_no32 {e : Ev} (h : VE e) : ∀ x ∈ wordsE e, (32 : UInt8) ∉ x.data.toList := by
  intro x hx
  unfold wordsE at hx
  rcases List.mem_cons.1 hx with rfl | hx
  · exact itoa_no32 _
  · rcases List.mem_cons.1 hx with rfl | hx
    · exact (kindW_no _ (by have := h.k; omega)).1
    · obtain ⟨f, _, rfl⟩ := List.mem_map.1 hx
      exact itoa_no32 _
theorem pieces_line {e : Ev} (h : VE e) {s : ByteArray} (hs : s.data.toList = lineN e) : Lib.splitB ⟨#[32]⟩ 0 (Lib.countB s ⟨#[32]⟩) s = wordsE e :=
  pieces_join (c := 32) (r := []) (s := s) (sep := ⟨#[32]⟩) (xs := wordsE e) rfl (by simp [wordsE]) (words_no32 h) (by rw [hs, lineN_join])
theorem lineN_no10 {e : Ev} (h : VE e) : (10 : UInt8) ∉ lineN e := by
  have hk := (kindW_no e.kind.toNat (by have := h.k; omega)).2
  unfold lineN headE bodyE
  simp only [List.mem_append, List.mem_flatMap, List.mem_cons, List.not_mem_nil, or_false, not_or, not_exists, not_and]
  refine ⟨⟨⟨itoa_no10 _, by decide⟩, hk⟩, fun f _ => ⟨by decide, itoa_no10 _⟩⟩
theorem trim_line (l : List UInt8) : Lib.trimSuffix (l ++ [10]) [10] = l := by
  unfold Lib.trimSuffix Lib.hasSuffix
  simp
end Go.Proofs.YtdfconiahfdhbaaDoor
