/-
  trickleref05's Digits, Format and number: what they return.
-/
import Derived.Test.YtmihogccpgdpaaaDoorRel
import Derived.Test.YtmihogccpgdpaaaDoorCut
import Derived.Lib.ItoaLen
import Derived.Laws.Concat
namespace Go.Proofs.YtmihogccpgdpaaaDoor
open Go.RowKit

theorem digits_c (k : Nat) : ∀ (n : Nat) (w : World), n ≤ k → n ≤ 9223372036854775807 →
    Calls Tryd.prog 34 #[.int .i64 n] w fun e w' => e = .returned (.string ⟨(Lib.decDigits n).toArray⟩) ∧ Below w.heap.size w w' := by
  induction k using Nat.strongRecOn with
  | _ k ih =>
  intro n w hk hm
  by_cases hn : n < 10
  · have hn' : (n : Int) < 10 := by omega
    have hcv := run_one_byte (P := Tryd.prog) Tryd.underlying51 Tryd.underlying5 Tryd.underlying9 (48 + (n : Int)) (by omega) (by omega)
    have hd : Lib.decDigits n = [UInt8.ofNat (48 + n)] := Dec.decDigits_small hn
    have HD := Lib.hid hd
    clear hd
    go_enter Tryd.func34, Tryd.ntmps34
    go_wp2_with fail
    go_ret
    exact ⟨by rw [HD.out]; rfl, (Below.refl _ _).alloc (Nat.le_refl _) _⟩
  · have hn' : ¬ (n : Int) < 10 := by omega
    have hd := Dec.decDigits_big hn
    have hl1 : (Lib.decDigits (n / 10)).length ≤ 19 := Dec.decDigits_len (k := 18) (by omega)
    have hl2 : (Lib.decDigits (n % 10)).length ≤ 1 := Dec.decDigits_len (k := 0) (by omega)
    have HD := Lib.hid hd
    clear hd
    go_enter Tryd.func34, Tryd.ntmps34
    go_wp2_with fail
    rw [show (n : Int) / 10 = ((n / 10 : Nat) : Int) from by omega]
    refine (ih (n / 10) (by omega) (n / 10) _ (Nat.le_refl _) (by omega)).mono ?_
    rintro e w1 ⟨rfl, hb1⟩
    go_wp2_with fail
    rw [show (n : Int) % 10 = ((n % 10 : Nat) : Int) from by omega]
    refine (ih (n % 10) (by omega) (n % 10) _ (Nat.le_refl _) (by omega)).mono ?_
    rintro e w2 ⟨rfl, hb2⟩
    go_wp2_with fail
    go_ret
    exact ⟨by rw [HD.out, ← Dec.decDigits_small (u := n % 10) (by omega), ← bytes_append]; rfl, hb1.trans (hb2.mono hb1.size)⟩
theorem digitsI_c (n : Int) (h0 : 0 ≤ n) (h1 : n ≤ 9223372036854775807) (w : World) :
    Calls Tryd.prog 34 #[.int .i64 n] w fun e w' => e = .returned (.string ⟨(Lib.itoa n).toArray⟩) ∧ Below w.heap.size w w' := by
  obtain ⟨m, rfl⟩ := Int.eq_ofNat_of_zero_le h0
  rw [show Lib.itoa (m : Int) = Lib.decDigits m by rw [Dec.itoa_nonneg (by omega), Int.toNat_natCast]]
  exact digits_c m m w (Nat.le_refl _) (by omega)

/-- the text of an interval -/
def fmtIv (a b : Int) : List UInt8 := if vld a b = true then (if a = b then Lib.itoa a else Lib.itoa a ++ ([46, 46] ++ Lib.itoa b)) else []
theorem fmt_no {a b : Int} (h : vld a b = false) : fmtIv a b = [] := by unfold fmtIv; rw [h]; rfl
theorem fmt_one {a b : Int} (h : vld a b = true) (e : a = b) : fmtIv a b = Lib.itoa a := by unfold fmtIv; rw [if_pos h, if_pos e]
theorem fmt_two {a b : Int} (h : vld a b = true) (e : ¬ a = b) : fmtIv a b = Lib.itoa a ++ ([46, 46] ++ Lib.itoa b) := by unfold fmtIv; rw [if_pos h, if_neg e]

theorem rformat_c (a b : Int) (w : World) : Calls Tryd.prog 25 #[iv a b] w fun e w' => e = .returned (.string ⟨(fmtIv a b).toArray⟩) ∧ Below w.heap.size w w' := by
  cases h1 : vld a b
  · have hd := Lib.hid (fmt_no h1)
    go_enter Tryd.func25, Tryd.ntmps25
    go_wp2_with fail
    refine (rvalid_c _ _ _).mono ?_
    rintro e w1 ⟨rfl, hb1⟩
    have k1 := (B1.start w a b).next hb1
    clear hb1
    obtain ⟨kb, ks, ka, kb'⟩ := id k1
    go_wp2_with fail
    go_ret
    exact ⟨ret_str (by rw [hd.out]), kb⟩
  · obtain ⟨a0, a1, a2⟩ := vld_iff.1 h1
    by_cases h2 : a = b
    · have hd := Lib.hid (fmt_one h1 h2)
      subst h2
      go_enter Tryd.func25, Tryd.ntmps25
      go_wp2_with fail
      refine (rvalid_c _ _ _).mono ?_
      rintro e w1 ⟨rfl, hb1⟩
      have k1 := (B1.start w a a).next hb1
      clear hb1
      obtain ⟨kb, ks, ka, kb'⟩ := id k1
      go_wp2_with fail
      refine (digitsI_c _ (by omega) (by omega) _).mono ?_
      rintro e w2 ⟨rfl, hb2⟩
      go_wp2_with fail
      go_ret
      exact ⟨ret_str (by rw [hd.out]), kb.trans (hb2.mono (by omega))⟩
    · have hd := Lib.hid (fmt_two h1 h2)
      go_enter Tryd.func25, Tryd.ntmps25
      go_wp2_with fail
      refine (rvalid_c _ _ _).mono ?_
      rintro e w1 ⟨rfl, hb1⟩
      have k1 := (B1.start w a b).next hb1
      clear hb1
      obtain ⟨kb, ks, ka, kb'⟩ := id k1
      have la : (Lib.itoa a).length ≤ 21 := Lib.itoa_length_le a (by omega) (by omega)
      have lb : (Lib.itoa b).length ≤ 21 := Lib.itoa_length_le b (by omega) (by omega)
      go_wp2_with fail
      clear kb ks ka kb'
      have k2 := k1.next (w1.drewB)
      clear k1
      have r1 := fun W => run_string_add_sum (P := Tryd.prog) W ⟨(Lib.itoa a).toArray⟩ ⟨#[46, 46]⟩ (by simp [ByteArray.size]; omega)
      have r2 := fun W => run_string_add_sum (P := Tryd.prog) W (⟨(Lib.itoa a).toArray⟩ ++ ⟨#[46, 46]⟩) ⟨(Lib.itoa b).toArray⟩ (by simp [ByteArray.size]; omega)
      go_region_held3 (fun w' => w'.cell? ⟨w.heap.size, 0, none⟩ = some (.int .i64 a) ∧ w'.cell? ⟨w.heap.size, 1, none⟩ = some (.int .i64 b) ∧ B1 w a b w') (first | exact ⟨k2.a, k2.b, k2⟩ | go_keep)
        (first | (go_at_call 34; refine (digitsI_c _ (by omega) (by omega) _).mono ?_; rintro e w2 ⟨rfl, hb2⟩; replace k2 := k2.next hb2))
      go_wp2_with fail
      go_ret
      exact ⟨ret_str (by rw [hd.out, show (⟨#[46, 46]⟩ : ByteArray) = ⟨([46, 46] : List UInt8).toArray⟩ from rfl, bytes_append, bytes_append, List.append_assoc]), k2.below⟩

/-- what 'number' answers -/
def numv (l : List UInt8) : Int := if l.length < 1 ∨ 13 < l.length then -1 else if l.all isDig = true then (Dec.val 0 l : Int) else -1
theorem numv_len {l : List UInt8} (h : l.length < 1 ∨ 13 < l.length) : numv l = -1 := by unfold numv; rw [if_pos h]
theorem numv_bad {l : List UInt8} (h : l.all isDig = false) : numv l = -1 := by
  unfold numv; split
  · rfl
  · rw [if_neg (by simp [h])]
theorem numv_ok {l : List UInt8} (h : ¬ (l.length < 1 ∨ 13 < l.length)) (hd : l.all isDig = true) : numv l = (Dec.val 0 l : Int) := by unfold numv; rw [if_neg h, if_pos hd]
theorem numv_dec {u : Nat} (h : u < 10000000000000) : numv (Lib.decDigits u) = u := by
  have h1 := Dec.decDigits_len (u := u) (k := 12) h
  have h2 := Dec.decDigits_pos u
  rw [numv_ok (by omega) (dec_all u), Dec.val_decDigits]
theorem numv_itoa {n : Int} (h0 : 0 ≤ n) (h : n < 10000000000000) : numv (Lib.itoa n) = n := by
  rw [Dec.itoa_nonneg h0, numv_dec (by omega)]; omega
theorem numv_bd (l : List UInt8) : -1 ≤ numv l ∧ numv l < 10000000000000 := by
  unfold numv
  split
  · omega
  · split
    · rename_i h1 h2
      have := val_lt l (by simpa using h2)
      have h3 : 10 ^ l.length ≤ 10 ^ 13 := Nat.pow_le_pow_right (by decide) (by omega)
      omega
    · omega

/-- the loop's relation: k digits have been read -/
def Read (t : ByteArray) (n i : Value) : Prop := ∃ k m : Nat, k ≤ t.size ∧ i = .int .i64 k ∧ n = .int .i64 m ∧ m = Dec.val 0 (t.data.toList.take k) ∧ (t.data.toList.take k).all isDig = true ∧ m < 10000000000000

set_option maxHeartbeats 1000000 in
theorem number_c (t : ByteArray) (hts : t.size ≤ 140737488351232) (w : World) :
    Calls Tryd.prog 37 #[.string t] w fun e w' => e = .returned (.int .i64 (numv t.data.toList)) ∧ w = w' := by
  have hlen : t.data.toList.length = t.size := by simp
  by_cases hl : t.size < 1 ∨ 13 < t.size
  · have hr := numv_len (l := t.data.toList) (by rw [hlen]; exact hl)
    have HR := Lib.hid hr
    clear hr hlen
    go_enter Tryd.func37, Tryd.ntmps37
    go_wp2_with fail
    all_goals go_ret
    all_goals exact ⟨ret_int (by rw [HR.out]), rfl⟩
  · have hl5 : t.size ≤ 13 := by omega
    have hl1 : 1 ≤ t.size := by omega
    go_enter Tryd.func37, Tryd.ntmps37
    go_wp2_with fail
    go_loop [3, 4] (fun n i => Read t n i) (fun _ i => t.size - (intOf i).toNat)
    case atStart => exact ⟨0, 0, by omega, rfl, rfl, rfl, rfl, by omega⟩
    case round =>
      obtain ⟨k, m, hk, rfl, rfl, hm, hd, hm9⟩ := hrel
      have HM := Lib.hid hm
      have HD := Lib.hid hd
      clear hm hd
      by_cases hlt : k < t.size
      · go_wp2_with fail
        · go_ret
          have hb := numv_bad (all_false t k hlt (by omega))
          exact ⟨ret_int (by rw [hb]), rfl⟩
        · go_round
          case rel => exact ⟨k + 1, m * 10 + (t[k].toNat - 48), by omega, by go_num, by go_num, by rw [val_snoc t k hlt, HM.out], all_snoc t k hlt (by omega) (by omega) HD.out, by rw [HM.out, ← val_snoc t k hlt]; exact val_small t _ 13 hl5 (all_snoc t k hlt (by omega) (by omega) HD.out)⟩
          case measure => simp [intOf]; omega
        · go_ret
          have hb := numv_bad (all_false t k hlt (by omega))
          exact ⟨ret_int (by rw [hb]), rfl⟩
      · obtain rfl : k = t.size := by omega
        have hfull : t.data.toList.take t.size = t.data.toList := List.take_of_length_le (by simp)
        have he := numv_ok (by rw [hlen]; exact hl) (by rw [← hfull]; exact HD.out)
        rw [show Dec.val 0 t.data.toList = m from by rw [HM.out, hfull]] at he
        have HE := Lib.hid he
        clear he hfull hlen
        go_wp2_with fail
        go_ret
        exact ⟨ret_int (by rw [HE.out]), rfl⟩
end Go.Proofs.YtmihogccpgdpaaaDoor
