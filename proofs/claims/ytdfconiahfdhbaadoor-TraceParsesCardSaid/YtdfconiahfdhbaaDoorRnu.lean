/-
  The reference's number.
-/
import Derived.Test.YtdfconiahfdhbaaDoorRln
import Derived.Test.YtdfconiahfdhbaaDoorWds
namespace Go.Proofs.YtdfconiahfdhbaaDoor
open Go.RowKit
attribute [local go_sem ↓] Go.wp_at_zero Go.wp_at_succ

theorem dlen (s : ByteArray) : s.data.toList.length = s.size := by simp
theorem tl_ne {s : ByteArray} (h : 0 < s.size) : ¬ s.toList = [] := fun e => by
  have := dlen s
  rw [← Lib.toList_data, e] at this
  simp at this
  omega
def Sml (m : Int) : Prop := -100000000000000 < m ∧ m < 100000000000000
/-- what 'number' answers -/
def NumP (s : List UInt8) (w : World) (e : Ending) (w' : World) : Prop := ∃ (n : Int) (b : Bool), e = .returned (.tuple #[.int .i64 n, .bool b]) ∧ Sml n ∧ (b = true → s = Lib.itoa n) ∧ (b = false → ∀ m, Sml m → s ≠ Lib.itoa m) ∧ Below w.heap.size w w'
/-- the digits of a text: behind the sign, if there is one -/
structure Body (s d : List UInt8) (neg : Bool) : Prop where
  is : if neg then s = 45 :: d else s = d
  head : neg = false → ∀ c r, d = c :: r → c ≠ 45
def sgn (neg : Bool) (m : Nat) : Int := if neg then -(m : Int) else m
theorem Body.of {s d : List UInt8} {neg : Bool} (h : Body s d neg) {m : Int} (e : s = Lib.itoa m) : d = Lib.decDigits m.natAbs ∧ m = sgn neg m.natAbs := by
  have hi := h.is
  by_cases hm : m < 0
  · rw [Dec.itoa_neg hm] at e
    cases neg with
    | true =>
      rw [if_pos rfl, e] at hi
      exact ⟨(List.cons.inj hi).2.symm, by unfold sgn; simp; omega⟩
    | false =>
      rw [if_neg (by decide), e] at hi
      exact absurd rfl (h.head rfl 45 _ hi.symm)
  · rw [Dec.itoa_nonneg (by omega), show m.toNat = m.natAbs from by omega] at e
    cases neg with
    | true =>
      rw [if_pos rfl, e] at hi
      have := (Dec.decDigits_dig m.natAbs 45 (by rw [hi]; simp)).1
      exact absurd this (by decide)
    | false =>
      rw [if_neg (by decide), e] at hi
      exact ⟨hi.symm, by unfold sgn; simp; omega⟩
theorem Body.bad_dig {s d : List UInt8} {neg : Bool} (h : Body s d neg) (hd : d.all isDig = false) (m : Int) : s ≠ Lib.itoa m := fun e => by
  rw [(h.of e).1, dec_all] at hd
  cases hd
theorem Body.bad_len {s d : List UInt8} {neg : Bool} (h : Body s d neg) (hd : 14 < d.length) {m : Int} (hm : Sml m) : s ≠ Lib.itoa m := fun e => by
  have h1 := Dec.decDigits_len (u := m.natAbs) (k := 13) (by have := hm.1; have := hm.2; omega)
  rw [(h.of e).1] at hd
  omega
theorem Body.val {s d : List UInt8} {neg : Bool} (h : Body s d neg) {m : Int} (e : s = Lib.itoa m) : m = sgn neg (Dec.val 0 d) := by
  obtain ⟨h1, h2⟩ := h.of e
  rw [h1, Dec.val_decDigits]
  exact h2
def ReadN (d : ByteArray) (n i : Value) : Prop := ∃ k m : Nat, k ≤ d.size ∧ i = .int .i64 k ∧ n = .int .i64 m ∧ m = Dec.val 0 (d.data.toList.take k) ∧ (d.data.toList.take k).all isDig = true ∧ k ≤ 14 ∧ m < 100000000000000
theorem val_small' (t : ByteArray) (k n : Nat) (h : k ≤ n) (hd : (t.data.toList.take k).all isDig = true) : Dec.val 0 (t.data.toList.take k) < 10 ^ n := by
  have h1 := val_lt _ (by simpa using hd)
  have h2 : (t.data.toList.take k).length ≤ n := by simp; omega
  exact Nat.lt_of_lt_of_le h1 (Nat.pow_le_pow_right (by decide) h2)
theorem Body.bad_nil {s d : List UInt8} {neg : Bool} (h : Body s d neg) (hd : d = []) (m : Int) : s ≠ Lib.itoa m := fun e => Dec.decDigits_ne _ ((h.of e).1.symm.trans hd)
theorem body_at (s : ByteArray) : ∃ (d : ByteArray) (neg : Bool), Body s.data.toList d.data.toList neg ∧ d.size ≤ s.size ∧ ((∃ h : 0 < s.size, s[0] = 45 ∧ neg = true ∧ d = s.extract 1 s.size) ∨ ((s.data.toList = [] ∨ ∃ h : 0 < s.size, s[0] ≠ 45) ∧ neg = false ∧ d = s)) := by
  by_cases h0 : 0 < s.size
  · have e : s.data.toList = s[0] :: s.data.toList.drop 1 := by
      have := List.drop_eq_getElem_cons (l := s.data.toList) (i := 0) (by simpa using h0)
      rw [List.drop_zero] at this
      exact this
    by_cases hc : s[0] = 45
    · refine ⟨s.extract 1 s.size, true, ⟨?_, fun h => by cases h⟩, by simp, .inl ⟨h0, hc, rfl, rfl⟩⟩
      rw [if_pos rfl, drop_k, ← hc]
      exact e
    · refine ⟨s, false, ⟨rfl, fun _ c r h => ?_⟩, Nat.le_refl _, .inr ⟨.inr ⟨h0, hc⟩, rfl, rfl⟩⟩
      rw [e] at h
      rw [← (List.cons.inj h).1]
      exact hc
  · have hn : s.data.toList = [] := List.eq_nil_of_length_eq_zero (by rw [dlen]; omega)
    exact ⟨s, false, ⟨rfl, fun _ c r h => by rw [hn] at h; cases h⟩, Nat.le_refl _, .inr ⟨.inl hn, rfl, rfl⟩⟩
theorem is45 {c : UInt8} (h : c = 45) : ((c.toNat : Int) == 45) = true := by rw [h]; rfl
theorem not45 {c : UInt8} (h : ¬ c = 45) : ((c.toNat : Int) == 45) = false := by
  have : c.toNat ≠ 45 := fun e => h (UInt8.toNat_inj.1 e)
  simp; omega
theorem sml_val {neg : Bool} {m : Nat} (h : m < 100000000000000) : Sml (sgn neg m) := by
  unfold Sml sgn
  cases neg <;> simp <;> omega
set_option maxRecDepth 100000 in
set_option maxHeartbeats 2000000 in
theorem number_c (s : ByteArray) (hs : s.size ≤ 200000) (w : World) : Calls Tryd.prog 51 #[.string s] w (NumP s.data.toList w) := by
  obtain ⟨d, neg, hB, hds, hcase⟩ := body_at s
  have HB := Lib.hid hB
  have hdl : d.data.toList.length = d.size := by simp
  have HDL := Lib.hid hdl
  clear hB hdl
  go_enter Tryd.func51, Tryd.ntmps51
  rcases hcase with ⟨h0, hc, rfl, hd⟩ | ⟨hn | ⟨h0, hc⟩, rfl, hd⟩
  · have t1 := is45 hc
    have h0' : (0 : Int) < (s.size : Int) := by omega
    have hdn2 : ¬ d.toList = s.toList := fun e => by
      have h1 := dlen d
      rw [← Lib.toList_data, e, Lib.toList_data, dlen, hd] at h1
      simp at h1
      omega
    have hdn : (!d.toList == s.toList) = true := by simpa using hdn2
    have HD := Lib.hid hd
    have HN := Lib.hid (And.intro hdn hdn2)
    clear hd hc hdn hdn2
    go_wp2_with fail
    rw [← HD.out]
    clear HD t1 h0'
    go_loop [5, 6] (fun n i => ReadN d n i) (fun _ i => d.size - (intOf i).toNat)
    case atStart => exact ⟨0, 0, by omega, rfl, rfl, rfl, rfl, by omega, by omega⟩
    case round =>
      obtain ⟨k, m, hk, rfl, rfl, hm, hdg, hk14, hm9⟩ := hrel
      have HM := Lib.hid hm
      have HDG := Lib.hid hdg
      clear hm hdg
      by_cases hlt : k < d.size
      · by_cases hl : k < 14
        · have hl' : ¬ (14 : Int) ≤ (k : Int) := by omega
          go_wp2_with fail
          · go_round
            case rel => exact ⟨k + 1, m * 10 + (d[k].toNat - 48), by omega, by go_num, by go_num, by rw [val_snoc d k hlt, HM.out], all_snoc d k hlt (by omega) (by omega) HDG.out, by omega, by rw [HM.out, ← val_snoc d k hlt]; exact val_small' d _ 14 (by omega) (all_snoc d k hlt (by omega) (by omega) HDG.out)⟩
            case measure => simp [intOf]; omega
          · go_ret2
            exact ⟨0, false, rfl, by unfold Sml; omega, (fun h => by cases h), (fun _ m' _ => HB.out.bad_dig (all_false d k hlt (by omega)) m'), Below.refl _ _⟩
          · go_ret2
            exact ⟨0, false, rfl, by unfold Sml; omega, (fun h => by cases h), (fun _ m' _ => HB.out.bad_dig (all_false d k hlt (by omega)) m'), Below.refl _ _⟩
        · have hl' : (14 : Int) ≤ (k : Int) := by omega
          have HBL := Lib.hid (fun m' hm' => HB.out.bad_len (m := m') (by rw [HDL.out]; omega) hm')
          go_wp2_with fail
          all_goals go_ret2
          all_goals exact ⟨0, false, rfl, by unfold Sml; omega, (fun h => by cases h), (fun _ m' hm' => HBL.out m' hm'), Below.refl _ _⟩
      · obtain rfl : k = d.size := by omega
        have hfull : d.data.toList.take d.size = d.data.toList := List.take_of_length_le (by rw [HDL.out]; omega)
        have HV := Lib.hid (show ∀ m', s.data.toList = Lib.itoa m' → m' = -(m : Int) from fun m' e => by
          have h1 := HB.out.val e
          rw [← hfull, ← HM.out] at h1
          exact h1)
        clear hfull
        obtain ⟨hdn, hdn2⟩ := HN.out
        have hnw : IntKind.i64.wrap (-(m : Int)) = -(m : Int) := IntWalk.i64_in _ (by omega)
        by_cases hz : 0 < d.size
        · have hzI : (0 : Int) < (d.size : Int) := by omega
          go_wp2_with fail
          refine (rnum_c (-(m : Int)) (by omega) (by omega) _).mono ?_
          rintro e w1 ⟨rfl, hb1⟩
          go_wp2_with fail
          go_ret2
          refine ⟨-(m : Int), _, rfl, by unfold Sml; omega, fun h => ?_, fun h m' hm' e => ?_, hb1⟩
          · rw [← Lib.toList_data]
            exact (eq_of_beq h).symm
          · have h2 := HV.out m' e
            rw [← h2, Lib.toList_data, e] at h
            simp at h
        · have hzI : ¬ (0 : Int) < (d.size : Int) := by omega
          have HZ := Lib.hid (show d.data.toList = [] from List.eq_nil_of_length_eq_zero (by rw [HDL.out]; omega))
          go_wp2_with fail
          go_ret2
          exact ⟨-(m : Int), false, rfl, by unfold Sml; omega, (fun h => by cases h), (fun _ m' _ => HB.out.bad_nil HZ.out m'), Below.refl _ _⟩
  · have e0 : s.size = 0 := by
      have := dlen s
      rw [hn] at this
      exact this.symm
    have h0' : ¬ (0 : Int) < (s.size : Int) := by omega
    subst hd
    have HN := Lib.hid (And.intro (show (!d.toList == d.toList) = false from by simp) (show d.toList = d.toList from rfl))
    have HE := Lib.hid e0
    clear hn e0
    go_wp2_with fail
    clear h0'
    go_loop [5, 6] (fun n i => ReadN d n i) (fun _ i => d.size - (intOf i).toNat)
    case atStart => exact ⟨0, 0, by omega, rfl, rfl, rfl, rfl, by omega, by omega⟩
    case round =>
      obtain ⟨k, m, hk, rfl, rfl, hm, hdg, hk14, hm9⟩ := hrel
      have HM := Lib.hid hm
      have HDG := Lib.hid hdg
      clear hm hdg
      by_cases hlt : k < d.size
      · exfalso
        have := HE.out
        omega
      · obtain rfl : k = d.size := by omega
        have hfull : d.data.toList.take d.size = d.data.toList := List.take_of_length_le (by rw [HDL.out]; omega)
        have HV := Lib.hid (show ∀ m', d.data.toList = Lib.itoa m' → m' = (m : Int) from fun m' e => by
          have h1 := HB.out.val e
          rw [← hfull, ← HM.out] at h1
          exact h1)
        clear hfull
        obtain ⟨hdn, hdn2⟩ := HN.out
        have hnw : IntKind.i64.wrap (-(m : Int)) = -(m : Int) := IntWalk.i64_in _ (by omega)
        by_cases hz : 0 < d.size
        · exact absurd HE.out (by omega)
        · have hzI : ¬ (0 : Int) < (d.size : Int) := by omega
          have HZ := Lib.hid (show d.data.toList = [] from List.eq_nil_of_length_eq_zero (by rw [HDL.out]; omega))
          go_wp2_with fail
          go_ret2
          exact ⟨(m : Int), false, rfl, by unfold Sml; omega, (fun h => by cases h), (fun _ m' _ => HB.out.bad_nil HZ.out m'), Below.refl _ _⟩
  · have t1 := not45 hc
    have h0' : (0 : Int) < (s.size : Int) := by omega
    subst hd
    have HN := Lib.hid (And.intro (show (!d.toList == d.toList) = false from by simp) (show d.toList = d.toList from rfl))
    go_wp2_with fail
    clear t1 h0' hc
    go_loop [5, 6] (fun n i => ReadN d n i) (fun _ i => d.size - (intOf i).toNat)
    case atStart => exact ⟨0, 0, by omega, rfl, rfl, rfl, rfl, by omega, by omega⟩
    case round =>
      obtain ⟨k, m, hk, rfl, rfl, hm, hdg, hk14, hm9⟩ := hrel
      have HM := Lib.hid hm
      have HDG := Lib.hid hdg
      clear hm hdg
      by_cases hlt : k < d.size
      · by_cases hl : k < 14
        · have hl' : ¬ (14 : Int) ≤ (k : Int) := by omega
          go_wp2_with fail
          · go_round
            case rel => exact ⟨k + 1, m * 10 + (d[k].toNat - 48), by omega, by go_num, by go_num, by rw [val_snoc d k hlt, HM.out], all_snoc d k hlt (by omega) (by omega) HDG.out, by omega, by rw [HM.out, ← val_snoc d k hlt]; exact val_small' d _ 14 (by omega) (all_snoc d k hlt (by omega) (by omega) HDG.out)⟩
            case measure => simp [intOf]; omega
          · go_ret2
            exact ⟨0, false, rfl, by unfold Sml; omega, (fun h => by cases h), (fun _ m' _ => HB.out.bad_dig (all_false d k hlt (by omega)) m'), Below.refl _ _⟩
          · go_ret2
            exact ⟨0, false, rfl, by unfold Sml; omega, (fun h => by cases h), (fun _ m' _ => HB.out.bad_dig (all_false d k hlt (by omega)) m'), Below.refl _ _⟩
        · have hl' : (14 : Int) ≤ (k : Int) := by omega
          have HBL := Lib.hid (fun m' hm' => HB.out.bad_len (m := m') (by rw [HDL.out]; omega) hm')
          go_wp2_with fail
          all_goals go_ret2
          all_goals exact ⟨0, false, rfl, by unfold Sml; omega, (fun h => by cases h), (fun _ m' hm' => HBL.out m' hm'), Below.refl _ _⟩
      · obtain rfl : k = d.size := by omega
        have hfull : d.data.toList.take d.size = d.data.toList := List.take_of_length_le (by rw [HDL.out]; omega)
        have HV := Lib.hid (show ∀ m', d.data.toList = Lib.itoa m' → m' = (m : Int) from fun m' e => by
          have h1 := HB.out.val e
          rw [← hfull, ← HM.out] at h1
          exact h1)
        clear hfull
        obtain ⟨hdn, hdn2⟩ := HN.out
        have hnw : IntKind.i64.wrap (-(m : Int)) = -(m : Int) := IntWalk.i64_in _ (by omega)
        by_cases hz : 0 < d.size
        · have hzI : (0 : Int) < (d.size : Int) := by omega
          go_wp2_with fail
          refine (rnum_c ((m : Int)) (by omega) (by omega) _).mono ?_
          rintro e w1 ⟨rfl, hb1⟩
          go_wp2_with fail
          go_ret2
          refine ⟨(m : Int), _, rfl, by unfold Sml; omega, fun h => ?_, fun h m' hm' e => ?_, hb1⟩
          · rw [← Lib.toList_data]
            exact (eq_of_beq h).symm
          · have h2 := HV.out m' e
            rw [← h2, Lib.toList_data, e] at h
            simp at h
        · exact absurd h0 hz
end Go.Proofs.YtdfconiahfdhbaaDoor
