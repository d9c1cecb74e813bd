/-
  trickleref11.Num: decimal numbers.
-/
import Derived.Test.YtpgjmegecfaijaaDoorWakes
import Derived.Laws.Concat
import Derived.Deep.DrawnRows
namespace Go.Proofs.YtpgjmegecfaijaaDoor
open Go.RowKit
attribute [local go_sem ↓] Go.wp_at_zero Go.wp_at_succ

theorem run_byte_at (m : Int) (h0 : 0 ≤ m) (h1 : m ≤ 255) (w : World) (g : Nat) (h : w.cell? ⟨g, 0, none⟩ = some (.int .u8 m)) : (convert 84 9 (.slice (some ⟨g, 0, none⟩) 1 1)).run Tryd.prog w = .ok (.string ⟨#[UInt8.ofNat m.toNat]⟩) w := by
  have e0 : ((UInt8.ofNat m.toNat).toNat : Int) = m := by simp [UInt8.toNat_ofNat']; omega
  have := run_convert_bytes_back (P := Tryd.prog) w 84 9 5 ⟨g, 0, none⟩ 1 [UInt8.ofNat m.toNat] Tryd.underlying84 Tryd.underlying5 Tryd.underlying9 (by
    intro j hj
    have hj0 : j = 0 := by simp at hj; omega
    subst hj0
    simp only [List.getElem_cons_zero, e0]
    exact h)
  simpa using this
set_option maxRecDepth 100000 in
theorem num_n (k : Nat) : ∀ (n : Nat) (w : World), n ≤ k → n ≤ 1000000 →
    Calls Tryd.prog 53 #[.int .i64 n] w fun e w' => e = .returned (.string ⟨(Lib.decDigits n).toArray⟩) ∧ Below w.heap.size w w' := by
  induction k using Nat.strongRecOn with
  | _ k ih =>
  intro n w hk hm
  have hn0 : ¬ (n : Int) < 0 := by omega
  by_cases hn : n < 10
  · have hn' : (n : Int) < 10 := by omega
    have hcv := run_one_byte (P := Tryd.prog) Tryd.underlying84 Tryd.underlying5 Tryd.underlying9 (48 + (n : Int)) (by omega) (by omega)
    have hd : Lib.decDigits n = [UInt8.ofNat (48 + n)] := Dec.decDigits_small hn
    have HD := Lib.hid hd
    clear hd
    go_enter Tryd.func53, Tryd.ntmps53
    go_wp2_with fail
    go_ret
    exact ⟨ret_str (by rw [HD.out, UInt8.ofNat_add]; rfl), (Below.refl _ _).alloc (Nat.le_refl _) _⟩
  · have hn' : ¬ (n : Int) < 10 := by omega
    have hd := Dec.decDigits_big hn
    have hl1 : (Lib.decDigits (n / 10)).length ≤ 19 := Dec.decDigits_len (k := 18) (by omega)
    have HD := Lib.hid hd
    have hcv := run_one_byte (P := Tryd.prog) Tryd.underlying84 Tryd.underlying5 Tryd.underlying9 (48 + (n : Int) % 10) (by omega) (by omega)
    have sum := fun W => run_string_add_sum (P := Tryd.prog) W ⟨(Lib.decDigits (n / 10)).toArray⟩ ⟨#[UInt8.ofNat (48 + (n : Int) % 10).toNat]⟩ (by simp [ByteArray.size]; omega)
    have IH : ∀ W, Calls Tryd.prog 53 #[.int .i64 ((n : Int) / 10)] W fun e w' => e = .returned (.string ⟨(Lib.decDigits (n / 10)).toArray⟩) ∧ Below W.heap.size W w' := by
      intro W
      rw [show (n : Int) / 10 = ((n / 10 : Nat) : Int) from by omega]
      exact ih (n / 10) (by omega) (n / 10) W (Nat.le_refl _) (by omega)
    have HI := Lib.hid IH
    clear hd ih IH hl1
    go_enter Tryd.func53, Tryd.ntmps53
    go_wp2_with fail
    have K := w.drewB
    have q1 : IntKind.i64.wrap ((n : Int) / 10) = (n : Int) / 10 := IntWalk.i64_in _ (by omega)
    have q2 : (n : Int).tmod 10 = (n : Int) % 10 := Int.tmod_eq_emod_of_nonneg (by omega)
    have q3 : IntKind.i64.wrap (48 + (n : Int) % 10) = 48 + (n : Int) % 10 := IntWalk.i64_in _ (by omega)
    have q4 : IntKind.u8.wrap (48 + (n : Int) % 10) = 48 + (n : Int) % 10 := by rw [wrap_u8]; omega
    have hcd := fun W : World => run_byte_at (48 + (n : Int) % 10) (by omega) (by omega) ((W.alloc (.cells #[.int .u8 (48 + (n : Int) % 10)] 5)).drew) W.heap.size (by simp [World.cell?_alloc_new])
    go_region_with
      ((go_at_call 53; (with_reducible refine (HI.out _).mono ?_); rintro e w1 ⟨rfl, hb1⟩; first | (replace K := bt K hb1) | (have hcc := run_byte_at (48 + (n : Int) % 10) (by omega) (by omega) w1 w.heap.size (((bcell hb1).1 w.heap.size 0 (by simp)).trans (by simp [World.cell?_alloc_new])); replace K := bt (bt K (ba _ _)) hb1)))
    all_goals go_wp2_with fail
    all_goals go_ret
    all_goals exact ⟨ret_str (by rw [HD.out, ← bytes_append, show (48 + (n : Int) % 10).toNat = 48 + n % 10 from by omega]), by first | exact K | exact bt K (ba _ _) | exact bt (bt K (ba _ _)) (World.drewB _)⟩
theorem num_c (n : Int) (h0 : -1000000 ≤ n) (h1 : n ≤ 1000000) (w : World) : Calls Tryd.prog 53 #[.int .i64 n] w fun e w' => e = .returned (.string ⟨(Lib.itoa n).toArray⟩) ∧ Below w.heap.size w w' := by
  by_cases hn : n < 0
  · have hl1 : (Lib.decDigits n.natAbs).length ≤ 7 := Dec.decDigits_len (k := 6) (by omega)
    have sum := fun W => run_string_add_sum (P := Tryd.prog) W ⟨#[45]⟩ ⟨(Lib.decDigits n.natAbs).toArray⟩ (by simp [ByteArray.size]; omega)
    have IH : ∀ W, Calls Tryd.prog 53 #[.int .i64 (-n)] W fun e w' => e = .returned (.string ⟨(Lib.decDigits n.natAbs).toArray⟩) ∧ Below W.heap.size W w' := by
      intro W
      rw [show -n = ((n.natAbs : Nat) : Int) from by omega]
      exact num_n n.natAbs n.natAbs W (Nat.le_refl _) (by omega)
    have HI := Lib.hid IH
    have HD := Lib.hid (Dec.itoa_neg hn)
    clear IH hl1
    go_enter Tryd.func53, Tryd.ntmps53
    go_wp2_with fail
    refine (HI.out _).mono ?_
    rintro e w1 ⟨rfl, hb1⟩
    go_wp2_with fail
    go_ret
    exact ⟨ret_str (by rw [HD.out, show (⟨#[45]⟩ : ByteArray) = ⟨([45] : List UInt8).toArray⟩ from rfl, bytes_append]; rfl), hb1⟩
  · obtain ⟨m, rfl⟩ := Int.eq_ofNat_of_zero_le (show 0 ≤ n by omega)
    rw [show Lib.itoa (m : Int) = Lib.decDigits m by rw [Dec.itoa_nonneg (by omega), Int.toNat_natCast]]
    exact num_n m m w (Nat.le_refl _) (by omega)
end Go.Proofs.YtpgjmegecfaijaaDoor
