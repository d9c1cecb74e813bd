/-
  trickleref01's Parse: what it returns, as a function on lists of bytes.
-/
import Derived.Test.YtllbjkcpiencfaaDoorRef
import Derived.Test.YtllbjkcpiencfaaDoorWrap
import Derived.RegionTactic
import Derived.BigQuiet
import Derived.Deep.QuietTactic
import Derived.LoopTactic
namespace Go.Proofs.YtllbjkcpiencfaaDoor
open Go.RowKit

def isDig (c : UInt8) : Bool := decide (48 ≤ c.toNat) && decide (c.toNat ≤ 57)
/-- what Parse answers of s with the sign sg and the rest t -/
def rp (s t : List UInt8) (sg : Int) : Int × Int :=
  if t.length < 1 ∨ 5 < t.length then (0, 2)
  else if t.all isDig then
    (if -32768 ≤ sg * (Dec.val 0 t : Int) ∧ sg * (Dec.val 0 t : Int) ≤ 32767 ∧ Lib.itoa (sg * (Dec.val 0 t : Int)) = s then (sg * (Dec.val 0 t : Int), 0) else (0, 2))
  else (0, 2)
theorem rp_len {s t : List UInt8} {sg : Int} (h : t.length < 1 ∨ 5 < t.length) : rp s t sg = (0, 2) := by unfold rp; rw [if_pos h]
theorem rp_bad {s t : List UInt8} {sg : Int} (h : t.all isDig = false) : rp s t sg = (0, 2) := by
  unfold rp; split
  · rfl
  · rw [if_neg (by simp [h])]
theorem val_lt (l : List UInt8) (h : ∀ c ∈ l, isDig c = true) : Dec.val 0 l < 10 ^ l.length := by
  suffices H : ∀ acc k, acc < 10 ^ k → Dec.val acc l < 10 ^ (k + l.length) by simpa using H 0 0 (by decide)
  induction l with
  | nil => intro acc k hk; simpa [Dec.val_nil] using hk
  | cons c l ih =>
    intro acc k hk
    have hc := h c (by simp)
    simp [isDig] at hc
    rw [Dec.val_cons]
    have := ih (fun x hx => h x (by simp [hx])) (acc * 10 + (c.toNat - 48)) (k + 1) (by rw [Nat.pow_succ]; omega)
    simpa [Nat.add_assoc, Nat.add_comm 1] using this
theorem take_snoc (s : ByteArray) (k : Nat) (h : k < s.size) : s.data.toList.take (k + 1) = s.data.toList.take k ++ [s[k]] := by
  rw [List.take_succ_eq_append_getElem (by simpa using h)]; rfl

theorem all_false (t : ByteArray) (k : Nat) (h : k < t.size) (hc : (t[k].toNat : Int) < 48 ∨ 57 < (t[k].toNat : Int)) : t.data.toList.all isDig = false := by
  rw [List.all_eq_false]
  refine ⟨t[k], ?_, ?_⟩
  · have : t[k] = t.data.toList[k]'(by simpa using h) := rfl
    rw [this]; exact List.getElem_mem _
  · simp [isDig]; omega
theorem all_snoc (t : ByteArray) (k : Nat) (h : k < t.size) (h1 : 48 ≤ (t[k].toNat : Int)) (h2 : (t[k].toNat : Int) ≤ 57) (hd : (t.data.toList.take k).all isDig = true) : (t.data.toList.take (k + 1)).all isDig = true := by
  rw [take_snoc t k h, List.all_append, hd]
  simp [isDig]; omega
theorem val_snoc (t : ByteArray) (k : Nat) (h : k < t.size) : Dec.val 0 (t.data.toList.take (k + 1)) = Dec.val 0 (t.data.toList.take k) * 10 + (t[k].toNat - 48) := by
  rw [take_snoc t k h, Dec.val_append, Dec.val_one]
theorem val_small (t : ByteArray) (k : Nat) (h : t.size ≤ 5) (hd : (t.data.toList.take k).all isDig = true) : Dec.val 0 (t.data.toList.take k) ≤ 99999 := by
  have h1 := val_lt _ (by simpa using hd)
  have h2 : (t.data.toList.take k).length ≤ 5 := by simp; omega
  have : 10 ^ (t.data.toList.take k).length ≤ 10 ^ 5 := Nat.pow_le_pow_right (by decide) h2
  omega
/-- a test's fact, laid aside -/
theorem rp_end {s t : List UInt8} {sg : Int} (h : ¬ (t.length < 1 ∨ 5 < t.length)) (hd : t.all isDig = true) :
    rp s t sg = (if -32768 ≤ sg * (Dec.val 0 t : Int) ∧ sg * (Dec.val 0 t : Int) ≤ 32767 ∧ Lib.itoa (sg * (Dec.val 0 t : Int)) = s then (sg * (Dec.val 0 t : Int), 0) else (0, 2)) := by
  unfold rp; rw [if_neg h, if_pos hd]

/-- the loop's relation: k digits of t have been read -/
def Read (t : ByteArray) (n i : Value) : Prop := ∃ k m : Nat, k ≤ t.size ∧ i = .int .i64 k ∧ n = .int .i64 m ∧ m = Dec.val 0 (t.data.toList.take k) ∧ (t.data.toList.take k).all isDig = true ∧ m ≤ 99999

set_option maxHeartbeats 1000000 in
theorem rparse_neg (s t : ByteArray) (hs : s.size ≤ 140737488351232) (w : World) (h0 : 0 < s.size) (hc : ((s[0].toNat : Int) == 45) = true) (ht : s.extract 1 s.size = t) :
    Calls Tryd.prog 31 #[.string s] w fun e w' => e = .returned (.tuple #[.int .i16 (rp s.data.toList t.data.toList (-1)).1, .int .i64 (rp s.data.toList t.data.toList (-1)).2]) ∧ Below w.heap.size w w' := by
  have HT := Lib.hid ht
  clear ht
  have hts : t.size ≤ 140737488351232 := by have := congrArg ByteArray.size HT.out; simp at this; omega
  have hlen : t.data.toList.length = t.size := by simp
  by_cases hl : t.size < 1 ∨ 5 < t.size
  · have hr : rp s.data.toList t.data.toList (-1) = (0, 2) := rp_len (by rw [hlen]; exact hl)
    have HR := Lib.hid hr
    clear hr hlen
    go_enter Tryd.func31, Tryd.ntmps31
    go_wp2_with fail
    go_region
    rw [HT.out]
    go_wp2_with fail
    all_goals go_ret2
    all_goals exact ⟨ret_two (by rw [HR.out]) (by rw [HR.out]), (Below.refl _ _).drew⟩
  · have hl5 : t.size ≤ 5 := by omega
    have hl1 : 1 ≤ t.size := by omega
    go_enter Tryd.func31, Tryd.ntmps31
    go_wp2_with fail
    go_region
    rw [HT.out]
    go_wp2_with fail
    go_loop [4, 7] (fun n i => Read t n i) (fun _ i => t.size - (intOf i).toNat)
    case atStart => exact ⟨0, 0, by omega, rfl, rfl, rfl, rfl, by omega⟩
    case round =>
      obtain ⟨k, m, hk, rfl, rfl, hm, hd, hm9⟩ := hrel
      have HM := Lib.hid hm
      have HD := Lib.hid hd
      clear hm hd
      by_cases hlt : k < t.size
      · go_wp2_with fail
        · go_ret2
          have hb := rp_bad (s := s.data.toList) (sg := -1) (all_false t k hlt (by omega))
          exact ⟨ret_two (by rw [hb]) (by rw [hb]), (Below.refl _ _).drew⟩
        · go_round
          case rel => exact ⟨k + 1, m * 10 + (t[k].toNat - 48), by omega, by go_num, by go_num, by rw [val_snoc t k hlt, HM.out], all_snoc t k hlt (by omega) (by omega) HD.out, by rw [HM.out, ← val_snoc t k hlt]; exact val_small t _ hl5 (all_snoc t k hlt (by omega) (by omega) HD.out)⟩
          case measure => simp [intOf]; omega
        · go_ret2
          have hb := rp_bad (s := s.data.toList) (sg := -1) (all_false t k hlt (by omega))
          exact ⟨ret_two (by rw [hb]) (by rw [hb]), (Below.refl _ _).drew⟩
      · obtain rfl : k = t.size := by omega
        have hfull : t.data.toList.take t.size = t.data.toList := List.take_of_length_le (by simp)
        have he := rp_end (s := s.data.toList) (sg := -1) (by rw [hlen]; exact hl) (by rw [← hfull]; exact HD.out)
        rw [show Dec.val 0 t.data.toList = m from by rw [HM.out, hfull]] at he
        have HE := Lib.hid he
        clear he hfull hlen
        go_wp2_with fail
        refine (wrap_c _ (by omega) (by omega) _).mono ?_
        rintro e w1 ⟨rfl, rfl⟩
        by_cases hin : (m : Int) ≤ 32768
        · have e16 : IntKind.i16.wrap (-(m : Int)) = -(m : Int) := IntWalk.i16_in _ ⟨by omega, by omega⟩
          rw [e16]
          clear e16
          go_wp2_with fail
          refine (rformat_c _ (by omega) (by omega) _).mono ?_
          rintro e w2 ⟨rfl, hb2⟩
          by_cases hq : Lib.itoa (-(m : Int)) = s.data.toList
          · have hf : (!Lib.itoa (-(m : Int)) == s.toList) = false := by rw [Lib.toList_data, hq]; simp
            have HQ := Lib.hid hq
            clear hq
            go_wp2_with fail
            go_ret2
            exact ⟨ret_two (by rw [HE.out, if_pos ⟨by omega, by omega, by simpa using HQ.out⟩]; simp) (by rw [HE.out, if_pos ⟨by omega, by omega, by simpa using HQ.out⟩]), (Below.refl _ _).drew.trans hb2⟩
          · have hf : (!Lib.itoa (-(m : Int)) == s.toList) = true := by rw [Lib.toList_data]; simpa using hq
            go_wp2_with fail
            go_ret2
            exact ⟨ret_two (by rw [HE.out, if_neg (by rintro ⟨_, _, h3⟩; exact hq (by simpa using h3))]) (by rw [HE.out, if_neg (by rintro ⟨_, _, h3⟩; exact hq (by simpa using h3))]), (Below.refl _ _).drew.trans hb2⟩
        · obtain ⟨x, hx, hx0, hx1⟩ : ∃ x, IntKind.i16.wrap (-(m : Int)) = x ∧ -32768 ≤ x ∧ x ≤ 32767 := ⟨_, rfl, by rw [wrap_i16]; omega, by rw [wrap_i16]; omega⟩
          rw [hx]
          clear hx
          go_wp2_with fail
          go_ret2
          exact ⟨ret_two (by rw [HE.out, if_neg (by omega)]) (by rw [HE.out, if_neg (by omega)]), (Below.refl _ _).drew⟩
set_option maxHeartbeats 1000000 in
theorem rparse_pos (t : ByteArray) (hts : t.size ≤ 140737488351232) (w : World) (h0 : 0 < t.size) (hc : ((t[0].toNat : Int) == 45) = false) :
    Calls Tryd.prog 31 #[.string t] w fun e w' => e = .returned (.tuple #[.int .i16 (rp t.data.toList t.data.toList 1).1, .int .i64 (rp t.data.toList t.data.toList 1).2]) ∧ Below w.heap.size w w' := by
  have hlen : t.data.toList.length = t.size := by simp
  by_cases hl : t.size < 1 ∨ 5 < t.size
  · have hr : rp t.data.toList t.data.toList 1 = (0, 2) := rp_len (by rw [hlen]; exact hl)
    have HR := Lib.hid hr
    clear hr hlen
    go_enter Tryd.func31, Tryd.ntmps31
    go_wp2_with fail
    all_goals go_ret2
    all_goals exact ⟨ret_two (by rw [HR.out]) (by rw [HR.out]), (Below.refl _ _)⟩
  · have hl5 : t.size ≤ 5 := by omega
    have hl1 : 1 ≤ t.size := by omega
    go_enter Tryd.func31, Tryd.ntmps31
    go_wp2_with fail
    go_loop [4, 7] (fun n i => Read t n i) (fun _ i => t.size - (intOf i).toNat)
    case atStart => exact ⟨0, 0, by omega, rfl, rfl, rfl, rfl, by omega⟩
    case round =>
      obtain ⟨k, m, hk, rfl, rfl, hm, hd, hm9⟩ := hrel
      have HM := Lib.hid hm
      have HD := Lib.hid hd
      clear hm hd
      by_cases hlt : k < t.size
      · go_wp2_with fail
        · go_ret2
          have hb := rp_bad (s := t.data.toList) (sg := 1) (all_false t k hlt (by omega))
          exact ⟨ret_two (by rw [hb]) (by rw [hb]), (Below.refl _ _)⟩
        · go_round
          case rel => exact ⟨k + 1, m * 10 + (t[k].toNat - 48), by omega, by go_num, by go_num, by rw [val_snoc t k hlt, HM.out], all_snoc t k hlt (by omega) (by omega) HD.out, by rw [HM.out, ← val_snoc t k hlt]; exact val_small t _ hl5 (all_snoc t k hlt (by omega) (by omega) HD.out)⟩
          case measure => simp [intOf]; omega
        · go_ret2
          have hb := rp_bad (s := t.data.toList) (sg := 1) (all_false t k hlt (by omega))
          exact ⟨ret_two (by rw [hb]) (by rw [hb]), (Below.refl _ _)⟩
      · obtain rfl : k = t.size := by omega
        have hfull : t.data.toList.take t.size = t.data.toList := List.take_of_length_le (by simp)
        have he := rp_end (s := t.data.toList) (sg := 1) (by rw [hlen]; exact hl) (by rw [← hfull]; exact HD.out)
        rw [show Dec.val 0 t.data.toList = m from by rw [HM.out, hfull]] at he
        have HE := Lib.hid he
        clear he hfull hlen
        go_wp2_with fail
        refine (wrap_c _ (by omega) (by omega) _).mono ?_
        rintro e w1 ⟨rfl, rfl⟩
        by_cases hin : (m : Int) ≤ 32767
        · have e16 : IntKind.i16.wrap ((m : Int)) = (m : Int) := IntWalk.i16_in _ ⟨by omega, by omega⟩
          rw [e16]
          clear e16
          go_wp2_with fail
          refine (rformat_c _ (by omega) (by omega) _).mono ?_
          rintro e w2 ⟨rfl, hb2⟩
          by_cases hq : Lib.itoa ((m : Int)) = t.data.toList
          · have hf : (!Lib.itoa ((m : Int)) == t.toList) = false := by rw [Lib.toList_data, hq]; simp
            have HQ := Lib.hid hq
            clear hq
            go_wp2_with fail
            go_ret2
            exact ⟨ret_two (by rw [HE.out, if_pos ⟨by omega, by omega, by simpa using HQ.out⟩]; simp) (by rw [HE.out, if_pos ⟨by omega, by omega, by simpa using HQ.out⟩]), (Below.refl _ _).trans hb2⟩
          · have hf : (!Lib.itoa ((m : Int)) == t.toList) = true := by rw [Lib.toList_data]; simpa using hq
            go_wp2_with fail
            go_ret2
            exact ⟨ret_two (by rw [HE.out, if_neg (by rintro ⟨_, _, h3⟩; exact hq (by simpa using h3))]) (by rw [HE.out, if_neg (by rintro ⟨_, _, h3⟩; exact hq (by simpa using h3))]), (Below.refl _ _).trans hb2⟩
        · obtain ⟨x, hx, hx0, hx1⟩ : ∃ x, IntKind.i16.wrap ((m : Int)) = x ∧ -32768 ≤ x ∧ x ≤ 32767 := ⟨_, rfl, by rw [wrap_i16]; omega, by rw [wrap_i16]; omega⟩
          rw [hx]
          clear hx
          go_wp2_with fail
          go_ret2
          exact ⟨ret_two (by rw [HE.out, if_neg (by omega)]) (by rw [HE.out, if_neg (by omega)]), (Below.refl _ _)⟩
end Go.Proofs.YtllbjkcpiencfaaDoor
