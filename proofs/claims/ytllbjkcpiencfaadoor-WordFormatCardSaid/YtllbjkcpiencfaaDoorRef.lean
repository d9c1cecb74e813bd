/-
  trickleref01's digits, Format and Parse: what they return.
-/
import Derived.Test.YtllbjkcpiencfaaDoorBase
import Derived.Test.YtllbjkcpiencfaaDoorAid
import Derived.Outline
namespace Go.Proofs.YtllbjkcpiencfaaDoor
open Go.RowKit

theorem digits_c (k : Nat) : ∀ (n : Nat) (w : World), n ≤ k → n ≤ 9223372036854775807 →
    Calls Tryd.prog 38 #[.int .i64 n] w fun e w' => e = .returned (.string ⟨(Lib.decDigits n).toArray⟩) ∧ Below w.heap.size w w' := by
  induction k using Nat.strongRecOn with
  | _ k ih =>
  intro n w hk hm
  by_cases hn : n < 10
  · have hn' : (n : Int) < 10 := by omega
    have hcv := run_one_byte (P := Tryd.prog) Tryd.underlying55 Tryd.underlying5 Tryd.underlying9 (48 + (n : Int)) (by omega) (by omega)
    have hd : Lib.decDigits n = [UInt8.ofNat (48 + n)] := Dec.decDigits_small hn
    have HD := Lib.hid hd
    clear hd
    go_enter Tryd.func38, Tryd.ntmps38
    go_wp2_with fail
    go_ret
    exact ⟨by rw [HD.out]; rfl, (Below.refl _ _).alloc (Nat.le_refl _) _⟩
  · have hn' : ¬ (n : Int) < 10 := by omega
    have hd := Dec.decDigits_big hn
    have hl1 : (Lib.decDigits (n / 10)).length ≤ 19 := Dec.decDigits_len (k := 18) (by omega)
    have hl2 : (Lib.decDigits (n % 10)).length ≤ 1 := Dec.decDigits_len (k := 0) (by omega)
    have HD := Lib.hid hd
    clear hd
    go_enter Tryd.func38, Tryd.ntmps38
    go_wp2_with fail
    rw [show (n : Int) / 10 = ((n / 10 : Nat) : Int) from by omega]
    refine (ih (n / 10) (by omega) (n / 10) _ (Nat.le_refl _) (by omega)).mono ?_
    rintro e w1 ⟨rfl, hb1⟩
    go_wp2_with fail
    rw [show (n : Int) % 10 = ((n % 10 : Nat) : Int) from by omega]
    refine (ih (n % 10) (by omega) (n % 10) _ (Nat.le_refl _) (by omega)).mono ?_
    rintro e w2 ⟨rfl, hb2⟩
    go_wp2_with fail
    go_ret
    exact ⟨by rw [HD.out, ← Dec.decDigits_small (u := n % 10) (by omega), ← bytes_append]; rfl, hb1.trans (hb2.mono hb1.size)⟩

theorem rformat_c (n : Int) (h0 : -32768 ≤ n) (h1 : n ≤ 32767) (w : World) :
    Calls Tryd.prog 30 #[.int .i16 n] w fun e w' => e = .returned (.string ⟨(Lib.itoa n).toArray⟩) ∧ Below w.heap.size w w' := by
  by_cases hn : n < 0
  · have hd := Dec.itoa_neg hn
    have HD := Lib.hid hd
    have hl := Dec.decDigits_len (u := n.natAbs) (k := 4) (by omega)
    clear hd
    go_enter Tryd.func30, Tryd.ntmps30
    go_wp2_with fail
    rw [show (-n : Int) = ((n.natAbs : Nat) : Int) from by omega]
    refine (digits_c n.natAbs n.natAbs _ (Nat.le_refl _) (by omega)).mono ?_
    rintro e w1 ⟨rfl, hb1⟩
    go_wp2_with fail
    go_ret
    exact ⟨ret_str (by rw [HD.out]; exact bytes_append [45] _), hb1⟩
  · obtain ⟨m, rfl⟩ := Int.eq_ofNat_of_zero_le (show 0 ≤ n by omega)
    have hd : Lib.itoa (m : Int) = Lib.decDigits m := by rw [Dec.itoa_nonneg (by omega), Int.toNat_natCast]
    have HD := Lib.hid hd
    clear hd
    go_enter Tryd.func30, Tryd.ntmps30
    go_wp2_with fail
    refine (digits_c m m _ (Nat.le_refl _) (by omega)).mono ?_
    rintro e w1 ⟨rfl, hb1⟩
    go_wp2_with fail
    go_ret
    exact ⟨ret_str (by rw [HD.out]), hb1⟩
end Go.Proofs.YtllbjkcpiencfaaDoor
