/-
  Decimal numerals, plain mathematics on lists of bytes: the digits of a number, their value, and that strconv's ParseInt (the shelf's 'Lib.parseIntB') reads what strconv's Itoa (the shelf's 'Lib.itoa') writes. No program in sight.
-/
import Derived.Lib.ItoaNum
import Derived.Lib.ParseIntB
namespace Go.Proofs.YtabfjiapoafgaaaDoor.Dec
open Go.Lib

theorem ofNat_toNat (n : Nat) (h : n < 256) : (UInt8.ofNat n).toNat = n := by simp [UInt8.toNat_ofNat']; omega
theorem decDigits_small {u : Nat} (h : u < 10) : decDigits u = [UInt8.ofNat (48 + u)] := by rw [decDigits, dif_pos h]
theorem decDigits_big {u : Nat} (h : ¬ u < 10) : decDigits u = decDigits (u / 10) ++ [UInt8.ofNat (48 + u % 10)] := by rw [decDigits, dif_neg h]

theorem decDigits_dig (u : Nat) : ∀ c ∈ decDigits u, 48 ≤ c.toNat ∧ c.toNat ≤ 57 := by
  induction u using Nat.strongRecOn with
  | _ u ih =>
    by_cases h : u < 10
    · rw [decDigits_small h]
      intro c hc
      obtain rfl : c = _ := List.mem_singleton.1 hc
      rw [ofNat_toNat _ (by omega)]; omega
    · rw [decDigits_big h]
      intro c hc
      rcases List.mem_append.1 hc with hc | hc
      · exact ih (u / 10) (by omega) c hc
      · obtain rfl : c = _ := List.mem_singleton.1 hc
        rw [ofNat_toNat _ (by omega)]; omega

theorem decDigits_ne (u : Nat) : decDigits u ≠ [] := by
  by_cases h : u < 10
  · rw [decDigits_small h]; simp
  · rw [decDigits_big h]; simp

/-- one digit more -/
def step (acc : Nat) (c : UInt8) : Nat := acc * 10 + (c.toNat - 48)
theorem step_eq (acc : Nat) (c : UInt8) : step acc c = acc * 10 + (c.toNat - 48) := rfl
/-- what digits spell, behind 'acc' -/
def val (acc : Nat) (l : List UInt8) : Nat := l.foldl step acc
theorem val_nil (acc : Nat) : val acc [] = acc := rfl
theorem val_cons (acc : Nat) (c : UInt8) (r : List UInt8) : val acc (c :: r) = val (acc * 10 + (c.toNat - 48)) r := by unfold val; rw [List.foldl_cons, step_eq]
theorem val_one (acc : Nat) (c : UInt8) : val acc [c] = acc * 10 + (c.toNat - 48) := by rw [val_cons, val_nil]
theorem val_append (l r : List UInt8) : ∀ acc, val acc (l ++ r) = val (val acc l) r := by
  induction l with
  | nil => intro acc; rfl
  | cons c l ih => intro acc; rw [List.cons_append, val_cons, val_cons, ih]
theorem val_decDigits (u : Nat) : val 0 (decDigits u) = u := by
  induction u using Nat.strongRecOn with
  | _ u ih =>
    by_cases h : u < 10
    · have e := ofNat_toNat (48 + u) (by omega)
      rw [decDigits_small h, val_one, e]; omega
    · have e := ofNat_toNat (48 + u % 10) (by omega)
      rw [decDigits_big h, val_append, ih (u / 10) (by omega), val_one, e]; omega
theorem le_val (l : List UInt8) : ∀ acc, acc ≤ val acc l := by
  induction l with
  | nil => intro acc; exact Nat.le_refl _
  | cons c l ih => intro acc; have h := ih (acc * 10 + (c.toNat - 48)); rw [val_cons]; omega
theorem decDigits_len {u k : Nat} (h : u < 10 ^ (k + 1)) : (decDigits u).length ≤ k + 1 := by
  induction k generalizing u with
  | zero => rw [decDigits_small (by simpa using h)]; simp
  | succ k ih =>
    by_cases hs : u < 10
    · rw [decDigits_small hs]; simp
    · rw [decDigits_big hs]
      have := ih (u := u / 10) (by rw [Nat.pow_succ] at h; omega)
      simp; omega
theorem decDigits_pos (u : Nat) : 1 ≤ (decDigits u).length := List.length_pos_iff.2 (decDigits_ne u)
theorem decDigits_inj {u v : Nat} (h : decDigits u = decDigits v) : u = v := by rw [← val_decDigits u, h, val_decDigits]

theorem parseUintM_ok (M : Nat) (hM : M < 18446744073709551616) (l : List UInt8) : ∀ acc, (∀ c ∈ l, 48 ≤ c.toNat ∧ c.toNat ≤ 57) → val acc l ≤ M → parseUintM M acc l = .ok (val acc l) := by
  induction l with
  | nil => intro acc _ _; rfl
  | cons c l ih =>
    intro acc hd hv
    have h1 := le_val l (acc * 10 + (c.toNat - 48))
    have hv' : val (acc * 10 + (c.toNat - 48)) l ≤ M := by rw [← val_cons]; exact hv
    rw [val_cons]
    simp only [parseUintM]
    rw [if_pos (hd c (by simp)), if_neg (by omega), if_neg (by omega)]
    exact ih _ (fun x hx => hd x (by simp [hx])) hv

theorem itoa_neg {n : Int} (h : n < 0) : itoa n = 45 :: decDigits n.natAbs := by unfold itoa; rw [if_pos h]
theorem itoa_nonneg {n : Int} (h : 0 ≤ n) : itoa n = decDigits n.toNat := by unfold itoa; rw [if_neg (by omega)]

theorem parseUintB_dec (B u : Nat) (h64 : B ≤ 64) (hu : u < 2 ^ B) : parseUintB B (decDigits u) = .ok u := by
  have hM : 2 ^ B - 1 < 18446744073709551616 := by
    have : 2 ^ B ≤ 2 ^ 64 := Nat.pow_le_pow_right (by decide) h64
    omega
  unfold parseUintB
  rw [if_neg (decDigits_ne _), parseUintM_ok _ hM _ _ (decDigits_dig _) (by rw [val_decDigits]; omega), val_decDigits]

theorem parseIntB_itoa (B : Nat) (v : Int) (hB : 1 ≤ B) (h64 : B ≤ 64) (lo : -((2 ^ (B - 1) : Nat) : Int) ≤ v) (hi : v < ((2 ^ (B - 1) : Nat) : Int)) : parseIntB B (itoa v) = .ok v := by
  have hp : 2 ^ B = 2 * 2 ^ (B - 1) := by rw [← Nat.pow_succ']; congr 1; omega
  have h1 : 1 ≤ 2 ^ (B - 1) := Nat.one_le_two_pow
  by_cases h : v < 0
  · have hu : parseUintB B (decDigits v.natAbs) = .ok v.natAbs := parseUintB_dec B _ h64 (by rw [hp]; generalize 2 ^ (B - 1) = H at *; omega)
    rw [itoa_neg h]
    have hc : (45 : UInt8).toNat = 45 := rfl
    simp only [parseIntB, hc]
    rw [if_pos (Or.inr trivial), hu]
    generalize 2 ^ (B - 1) = H at *
    simp only [not_true_eq_false, false_and, if_false, true_and, if_true]
    rw [if_neg (by omega)]
    congr 1
    omega
  · have hu : parseUintB B (decDigits v.toNat) = .ok v.toNat := parseUintB_dec B _ h64 (by rw [hp]; generalize 2 ^ (B - 1) = H at *; omega)
    have hdd := decDigits_dig v.toNat
    rw [itoa_nonneg (by omega)]
    cases hl : decDigits v.toNat with
    | nil => exact absurd hl (decDigits_ne _)
    | cons c r =>
      rw [hl] at hu hdd
      have hcd := hdd c (by simp)
      have hn : ¬ c.toNat = 45 := by omega
      simp only [parseIntB]
      rw [if_neg (by omega), hu]
      generalize 2 ^ (B - 1) = H at *
      simp only [hn, not_false_eq_true, true_and, false_and, if_false]
      rw [if_neg (by omega)]
      congr 1
      omega

theorem itoa_inj {m n : Int} (h : itoa m = itoa n) : m = n := by
  by_cases hm : m < 0 <;> by_cases hn : n < 0
  · rw [itoa_neg hm, itoa_neg hn] at h
    have := decDigits_inj (List.cons.inj h).2
    omega
  · rw [itoa_neg hm, itoa_nonneg (by omega)] at h
    have := decDigits_dig n.toNat 45 (by rw [← h]; simp)
    exact absurd this.1 (by decide)
  · rw [itoa_nonneg (by omega), itoa_neg hn] at h
    have := decDigits_dig m.toNat 45 (by rw [h]; simp)
    exact absurd this.1 (by decide)
  · rw [itoa_nonneg (by omega), itoa_nonneg (by omega)] at h
    have := decDigits_inj h
    omega
end Go.Proofs.YtabfjiapoafgaaaDoor.Dec
