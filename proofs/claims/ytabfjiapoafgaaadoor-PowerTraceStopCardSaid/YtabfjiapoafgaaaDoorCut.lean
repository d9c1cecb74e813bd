/-
  Lists of bytes cut at a separator, and digits: plain mathematics.
-/
import Derived.Test.YtabfjiapoafgaaaDoorDec
import Derived.Lib.IndexMore
namespace Go.Proofs.YtabfjiapoafgaaaDoor
open Go.Lib

theorem index_none_of {l : List UInt8} {c : UInt8} {r : List UInt8} (h : c ∉ l) : Lib.index l (c :: r) = -1 := by
  induction l with
  | nil => rfl
  | cons b l ih =>
    have hb : ¬ c = b := fun e => h (by simp [e])
    have hl : c ∉ l := fun e => h (by simp [e])
    have hp : (c :: r).isPrefixOf (b :: l) = false := by simp [List.isPrefixOf, hb]
    simp [Lib.index, hp, ih hl]
theorem index_at {l m : List UInt8} {c : UInt8} {r : List UInt8} (h : c ∉ l) : Lib.index (l ++ (c :: r) ++ m) (c :: r) = l.length := by
  induction l with
  | nil =>
    have hp : (c :: r).isPrefixOf (c :: (r ++ m)) = true := by simp [List.isPrefixOf, List.isPrefixOf_iff_prefix]
    show Lib.index (c :: (r ++ m)) (c :: r) = 0
    simp [Lib.index, hp]
  | cons b l ih =>
    have hb : ¬ c = b := fun e => h (by simp [e])
    have hl : c ∉ l := fun e => h (by simp [e])
    have hp : (c :: r).isPrefixOf (b :: (l ++ (c :: r) ++ m)) = false := by simp [List.isPrefixOf, hb]
    have hi := ih hl
    show Lib.index (b :: (l ++ (c :: r) ++ m)) (c :: r) = _
    simp only [Lib.index, hp, hi]
    rw [if_neg (by simp), if_neg (by simp <;> omega)]
    simp
theorem cut_none {l : List UInt8} {c : UInt8} {r : List UInt8} (h : c ∉ l) : Lib.cut l (c :: r) = (l, [], false) := by
  unfold Lib.cut; rw [index_none_of h, if_neg (by decide)]
theorem cut_at {l m : List UInt8} {c : UInt8} {r : List UInt8} (h : c ∉ l) : Lib.cut (l ++ (c :: r) ++ m) (c :: r) = (l, m, true) := by
  unfold Lib.cut; rw [index_at h, if_pos (by omega)]
  simp

def isDig (c : UInt8) : Bool := decide (48 ≤ c.toNat) && decide (c.toNat ≤ 57)
theorem isDig_iff {c : UInt8} : isDig c = true ↔ 48 ≤ c.toNat ∧ c.toNat ≤ 57 := by simp [isDig]
theorem val_lt (l : List UInt8) (h : ∀ c ∈ l, isDig c = true) : Dec.val 0 l < 10 ^ l.length := by
  suffices H : ∀ acc k, acc < 10 ^ k → Dec.val acc l < 10 ^ (k + l.length) by simpa using H 0 0 (by decide)
  induction l with
  | nil => intro acc k hk; simpa [Dec.val_nil] using hk
  | cons c l ih =>
    intro acc k hk
    have hc := h c (by simp)
    rw [isDig_iff] at hc
    rw [Dec.val_cons]
    have := ih (fun x hx => h x (by simp [hx])) (acc * 10 + (c.toNat - 48)) (k + 1) (by rw [Nat.pow_succ]; omega)
    simpa [Nat.add_assoc, Nat.add_comm 1] using this
theorem dec_all (u : Nat) : (Lib.decDigits u).all isDig = true := by
  rw [List.all_eq_true]; intro c hc
  have := Dec.decDigits_dig u c hc
  rw [isDig_iff]; omega
theorem take_snoc (s : ByteArray) (k : Nat) (h : k < s.size) : s.data.toList.take (k + 1) = s.data.toList.take k ++ [s[k]] := by
  rw [List.take_succ_eq_append_getElem (by simpa using h)]; rfl
theorem all_false (t : ByteArray) (k : Nat) (h : k < t.size) (hc : (t[k].toNat : Int) < 48 ∨ 57 < (t[k].toNat : Int)) : t.data.toList.all isDig = false := by
  rw [List.all_eq_false]
  refine ⟨t[k], ?_, ?_⟩
  · have : t[k] = t.data.toList[k]'(by simpa using h) := rfl
    rw [this]; exact List.getElem_mem _
  · rw [isDig_iff]; omega
theorem all_snoc (t : ByteArray) (k : Nat) (h : k < t.size) (h1 : 48 ≤ (t[k].toNat : Int)) (h2 : (t[k].toNat : Int) ≤ 57) (hd : (t.data.toList.take k).all isDig = true) : (t.data.toList.take (k + 1)).all isDig = true := by
  have hk : isDig t[k] = true := by rw [isDig_iff]; omega
  rw [take_snoc t k h, List.all_append, hd]
  simp [hk]
theorem val_snoc (t : ByteArray) (k : Nat) (h : k < t.size) : Dec.val 0 (t.data.toList.take (k + 1)) = Dec.val 0 (t.data.toList.take k) * 10 + (t[k].toNat - 48) := by
  rw [take_snoc t k h, Dec.val_append, Dec.val_one]
theorem val_small (t : ByteArray) (k n : Nat) (h : t.size ≤ n) (hd : (t.data.toList.take k).all isDig = true) : Dec.val 0 (t.data.toList.take k) < 10 ^ n := by
  have h1 := val_lt _ (by simpa using hd)
  have h2 : (t.data.toList.take k).length ≤ n := by simp; omega
  exact Nat.lt_of_lt_of_le h1 (Nat.pow_le_pow_right (by decide) h2)
theorem first_of (s : ByteArray) (c : UInt8) (r : List UInt8) (h : s.data.toList = c :: r) : ∃ h0 : 0 < s.size, s[0] = c := by
  have hz : 0 < s.size := by
    have : s.data.toList.length = s.size := by simp
    rw [h] at this; simp at this; omega
  refine ⟨hz, ?_⟩
  have e : s[0] = s.data.toList[0]'(by simpa using hz) := rfl
  rw [e]; simp [h]
theorem drop_k (s : ByteArray) (k : Nat) : (s.extract k s.size).data.toList = s.data.toList.drop k := by
  rw [Lib.extract_data, List.take_of_length_le (by simp)]
end Go.Proofs.YtabfjiapoafgaaaDoor
