/-
  trickleref01's Parse: a word's numeral is read back; every other string is ErrSyntax.
-/
import Derived.Test.YtllbjkcpiencfaaDoorRefParse
namespace Go.Proofs.YtllbjkcpiencfaaDoor
open Go.RowKit

theorem rp_no {s t : List UInt8} {sg : Int} (h : ∀ n : Int, -32768 ≤ n → n ≤ 32767 → s ≠ Lib.itoa n) : rp s t sg = (0, 2) := by
  unfold rp
  split
  · rfl
  · split
    · split
      · rename_i h3; exact absurd h3.2.2.symm (h _ h3.1 h3.2.1)
      · rfl
    · rfl
theorem dec_all (u : Nat) : (Lib.decDigits u).all isDig = true := by
  rw [List.all_eq_true]; intro c hc
  have := Dec.decDigits_dig u c hc
  simp [isDig]; omega
theorem rp_yes {s t : List UInt8} {sg n : Int} {u : Nat} (hu : u < 100000) (ht : t = Lib.decDigits u) (hs : s = Lib.itoa n) (hn : sg * (u : Int) = n) (h0 : -32768 ≤ n) (h1 : n ≤ 32767) : rp s t sg = (n, 0) := by
  subst ht
  have hl := Dec.decDigits_len (u := u) (k := 4) hu
  have hp := Dec.decDigits_pos u
  rw [rp_end (by omega) (dec_all u), Dec.val_decDigits, hn, if_pos ⟨h0, h1, hs.symm⟩]
theorem first_of (s : ByteArray) (c : UInt8) (r : List UInt8) (h : s.data.toList = c :: r) : ∃ h0 : 0 < s.size, s[0] = c := by
  have hz : 0 < s.size := by
    have : s.data.toList.length = s.size := by simp
    rw [h] at this; simp at this; omega
  refine ⟨hz, ?_⟩
  have e : s[0] = s.data.toList[0]'(by simpa using hz) := rfl
  rw [e]; simp [h]
theorem drop_one (s : ByteArray) : (s.extract 1 s.size).data.toList = s.data.toList.drop 1 := by
  rw [Lib.extract_data, List.take_of_length_le (by simp)]

theorem rparse_yes (n : Int) (h0 : -32768 ≤ n) (h1 : n ≤ 32767) (s : ByteArray) (hs : s.size ≤ 140737488351232) (h : s.data.toList = Lib.itoa n) (w : World) :
    Calls Tryd.prog 31 #[.string s] w fun e w' => e = .returned (.tuple #[.int .i16 n, .int .i64 0]) ∧ Below w.heap.size w w' := by
  by_cases hn : n < 0
  · have hi := Dec.itoa_neg hn
    obtain ⟨hz, hc⟩ := first_of s 45 _ (h.trans hi)
    have hrp : rp s.data.toList (s.extract 1 s.size).data.toList (-1) = (n, 0) :=
      rp_yes (u := n.natAbs) (by omega) (by rw [drop_one, h, hi]; rfl) h (by omega) h0 h1
    refine (rparse_neg s _ hs w hz (by rw [hc]; rfl) rfl).mono fun e w' ⟨he, hb⟩ => ⟨?_, hb⟩
    rw [he, hrp]
  · have hi := Dec.itoa_nonneg (n := n) (by omega)
    cases hl : Lib.decDigits n.toNat with
    | nil => exact absurd hl (Dec.decDigits_ne _)
    | cons c r =>
      have hd := Dec.decDigits_dig n.toNat c (by rw [hl]; simp)
      obtain ⟨hz, hc⟩ := first_of s c r (h.trans (hi.trans hl))
      have hrp : rp s.data.toList s.data.toList 1 = (n, 0) :=
        rp_yes (u := n.toNat) (by omega) (by rw [h, hi]) h (by omega) h0 h1
      refine (rparse_pos s hs w hz (by rw [hc]; simp; omega)).mono fun e w' ⟨he, hb⟩ => ⟨?_, hb⟩
      rw [he, hrp]

theorem rparse_no (s : ByteArray) (hs : s.size ≤ 140737488351232) (h : ∀ n : Int, -32768 ≤ n → n ≤ 32767 → s.data.toList ≠ Lib.itoa n) (w : World) :
    Calls Tryd.prog 31 #[.string s] w fun e w' => e = .returned (.tuple #[.int .i16 0, .int .i64 2]) ∧ Below w.heap.size w w' := by
  by_cases hz : 0 < s.size
  · by_cases hc : ((s[0].toNat : Int) == 45) = true
    · refine (rparse_neg s _ hs w hz hc rfl).mono fun e w' ⟨he, hb⟩ => ⟨?_, hb⟩
      rw [he, rp_no h]
    · refine (rparse_pos s hs w hz (by simpa using hc)).mono fun e w' ⟨he, hb⟩ => ⟨?_, hb⟩
      rw [he, rp_no h]
  · have hz0 : s.size = 0 := by omega
    have hz1 : (s.size : Int) < 1 := by omega
    have hz2 : ¬ 0 < (s.size : Int) := by omega
    have HZ := Lib.hid hz0
    clear hz0 h hz
    go_enter Tryd.func31, Tryd.ntmps31
    go_wp2_with fail
    all_goals go_ret2
    all_goals exact ⟨rfl, Below.refl _ _⟩
end Go.Proofs.YtllbjkcpiencfaaDoor
