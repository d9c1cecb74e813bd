/-
  trickleref11.value: the number of an operand's digits.
-/
import Derived.Test.YtpgjmegecfaijaaDoorIParse
namespace Go.Proofs.YtpgjmegecfaijaaDoor
open Go.RowKit

def vstep (acc : Nat) (c : UInt8) : Nat := if 48 ≤ c.toNat ∧ c.toNat ≤ 57 then (acc * 10 + (c.toNat - 48)) % 65536 else acc
def vals (l : List UInt8) : Nat := l.foldl vstep 0
def valN (l : List UInt8) : Int := if l.head? = some 45 then -(vals l : Int) else vals l
theorem vals_lt_aux (l : List UInt8) : ∀ acc, acc < 65536 → l.foldl vstep acc < 65536 := by
  induction l with
  | nil => intro acc h; exact h
  | cons c l ih =>
    intro acc h
    refine ih _ ?_
    unfold vstep
    split
    · exact Nat.mod_lt _ (by decide)
    · exact h
theorem vals_lt (l : List UInt8) : vals l < 65536 := vals_lt_aux l 0 (by decide)
theorem vals_snoc (l : List UInt8) (c : UInt8) : vals (l ++ [c]) = vstep (vals l) c := by simp [vals]
theorem vals_dig (l : List UInt8) (h : ∀ c ∈ l, 48 ≤ c.toNat ∧ c.toNat ≤ 57) : ∀ acc acc', acc % 65536 = acc' % 65536 → acc' < 65536 → l.foldl vstep acc' = Dec.val acc l % 65536 := by
  induction l with
  | nil => intro acc acc' e hl; simp [Dec.val_nil]; omega
  | cons c l ih =>
    intro acc acc' e hl
    rw [List.foldl_cons, Dec.val_cons]
    have hc := h c (by simp)
    refine ih (fun x hx => h x (by simp [hx])) _ _ ?_ ?_
    · unfold vstep; rw [if_pos hc]; omega
    · unfold vstep; rw [if_pos hc]; omega
theorem vals_dec (u : Nat) (hu : u < 65536) : vals (Lib.decDigits u) = u := by
  unfold vals
  rw [vals_dig _ (Dec.decDigits_dig u) 0 0 rfl (by decide), Dec.val_decDigits]
  omega
theorem vals_skip (c : UInt8) (l : List UInt8) (h : c.toNat < 48 ∨ 57 < c.toNat) : vals (c :: l) = vals l := by
  unfold vals
  rw [List.foldl_cons]
  congr 1
  unfold vstep
  rw [if_neg (by omega)]
theorem valN_itoa (n : Int) (h0 : -65536 < n) (h1 : n < 65536) : valN (Lib.itoa n) = n := by
  by_cases hn : n < 0
  · rw [Dec.itoa_neg hn]
    unfold valN
    rw [List.head?_cons, if_pos rfl, vals_skip 45 _ (by decide), vals_dec _ (by omega)]
    omega
  · rw [Dec.itoa_nonneg (by omega)]
    unfold valN
    rw [vals_dec _ (by omega), if_neg]
    · omega
    · intro e
      cases hd : Lib.decDigits n.toNat with
      | nil => exact Dec.decDigits_ne _ hd
      | cons c r =>
        rw [hd] at e
        have hc := Dec.decDigits_dig n.toNat c (by rw [hd]; simp)
        simp at e
        subst e
        exact absurd hc.1 (by decide)
theorem valN_opT {a b c m o : Int} (ho : o = 0 ∨ o = 1 ∨ o = 2 ∨ o = 3) (hm : -32768 ≤ m ∧ m ≤ 32767) (ha : 0 ≤ a ∧ a < 8) (hb : 0 ≤ b ∧ b < 8) (hc : 0 ≤ c ∧ c < 8) : valN (opT a b c m o).data.toList = fieldOf a b c m o := by
  unfold opT
  by_cases h3 : o = 3
  · rw [if_pos h3]
    subst h3
    exact valN_itoa m (by omega) (by omega)
  · rw [if_neg h3]
    have hf : 0 ≤ fieldOf a b c m o ∧ fieldOf a b c m o < 8 := by
      rcases ho with rfl | rfl | rfl | rfl
      · simpa [fieldOf] using ha
      · simpa [fieldOf] using hb
      · simpa [fieldOf] using hc
      · exact absurd rfl h3
    have e : ((⟨#[114]⟩ : ByteArray) ++ ⟨(Lib.itoa (fieldOf a b c m o)).toArray⟩).data.toList = 114 :: Lib.itoa (fieldOf a b c m o) := by simp
    rw [e]
    unfold valN
    rw [if_neg (by simp), vals_skip 114 _ (by decide), Dec.itoa_nonneg hf.1, vals_dec _ (by omega)]
    omega
theorem valN_bd (l : List UInt8) : -65536 < valN l ∧ valN l < 65536 := by
  have := vals_lt l
  unfold valN
  split <;> omega
theorem head_at (t : ByteArray) (h : 0 < t.size) : t.data.toList.head? = some t[0] := by
  have e : t[0] = t.data.toList[0]'(by simpa using h) := rfl
  rw [e, List.head?_eq_getElem?, List.getElem?_eq_getElem]
set_option maxRecDepth 100000 in
set_option maxHeartbeats 1000000 in
theorem value_c (t : ByteArray) (ht : t.size ≤ 1000) (w : World) : Calls Tryd.prog 61 #[.string t] w fun e w' => e = .returned (.int .i64 (valN t.data.toList)) ∧ w = w' := by
  have ht' : (t.size : Int) ≤ 1000 := by omega
  go_enter Tryd.func61, Tryd.ntmps61
  go_wp2_with fail
  go_loop [3, 4] (fun n i => ∃ k m : Nat, k ≤ t.size ∧ i = .int .i64 k ∧ n = .int .i64 m ∧ m = vals (t.data.toList.take k) ∧ m < 65536) (fun _ i => t.size - (intOf i).toNat)
  case atStart => exact ⟨0, 0, by omega, rfl, rfl, rfl, by omega⟩
  case round =>
    obtain ⟨k, m, hk, rfl, rfl, hm, hlt⟩ := hrel
    have HM := Lib.hid hm
    clear hm
    have hml : (m : Int) < 65536 := by omega
    by_cases hkl : k < t.size
    · have hts := take_snoc t k hkl
      have HV := Lib.hid (show vals (t.data.toList.take (k + 1)) = vstep m t[k] from by rw [hts, vals_snoc, ← HM.out])
      clear hts
      by_cases h0 : 48 ≤ (t[k].toNat : Int)
      · by_cases h1 : (t[k].toNat : Int) ≤ 57
        · have e8 : IntKind.u8.wrap ((t[k].toNat : Int) - 48) = (t[k].toNat : Int) - 48 := by rw [wrap_u8]; omega
          go_wp2_with fail
          go_round
          case rel =>
            refine ⟨k + 1, (m * 10 + (t[k].toNat - 48)) % 65536, by omega, by go_num, ?_, ?_, Nat.mod_lt _ (by decide)⟩
            · have : (10 * (m : Int) + ((t[k].toNat : Int) - 48)) % 65536 = (((m * 10 + (t[k].toNat - 48)) % 65536 : Nat) : Int) := by omega
              first | rw [this] | (simp; omega)
            · rw [HV.out]; unfold vstep; rw [if_pos (by omega)]
          case measure => simp [intOf]; omega
        · go_wp2_with fail
          go_round
          case rel => exact ⟨k + 1, m, by omega, by go_num, rfl, by rw [HV.out]; unfold vstep; rw [if_neg (by omega)], hlt⟩
          case measure => simp [intOf]; omega
      · go_wp2_with fail
        go_round
        case rel => exact ⟨k + 1, m, by omega, by go_num, rfl, by rw [HV.out]; unfold vstep; rw [if_neg (by omega)], hlt⟩
        case measure => simp [intOf]; omega
    · obtain rfl : k = t.size := by omega
      have hmv : m = vals t.data.toList := by rw [HM.out, List.take_of_length_le (by simp)]
      have HMV := Lib.hid hmv
      clear hmv
      by_cases hz : 0 < t.size
      · have hz' : 0 < (t.size : Int) := by omega
        have hh := head_at t hz
        by_cases h45 : t[0] = 45
        · have hb : ((t[0].toNat : Int) == 45) = true := by rw [h45]; rfl
          have HE := Lib.hid (show valN t.data.toList = -(m : Int) from by unfold valN; rw [hh, h45, if_pos rfl, HMV.out])
          clear hh h45
          go_wp2_with fail
          go_ret
          exact ⟨ret_int HE.out.symm, rfl⟩
        · have hb : ((t[0].toNat : Int) == 45) = false := by
            rw [beq_eq_false_iff_ne]
            intro e
            exact h45 (by apply UInt8.toNat_inj.1; have e2 : (45 : UInt8).toNat = 45 := rfl; omega)
          have HE := Lib.hid (show valN t.data.toList = (m : Int) from by unfold valN; rw [hh, if_neg (by simpa using h45), HMV.out])
          clear hh h45
          go_wp2_with fail
          go_ret
          exact ⟨ret_int HE.out.symm, rfl⟩
      · have hz' : ¬ 0 < (t.size : Int) := by omega
        have HE := Lib.hid (show valN t.data.toList = (m : Int) from by
          have : t.data.toList = [] := List.eq_nil_of_length_eq_zero (by have e : t.data.toList.length = t.size := by simp
                                                                         omega)
          unfold valN; rw [this, if_neg (by simp), HMV.out, this])
        go_wp2_with fail
        go_ret
        exact ⟨ret_int HE.out.symm, rfl⟩
end Go.Proofs.YtpgjmegecfaijaaDoor
