/-
  The reference's Num, Format and number.
-/
import Derived.Test.YtgdaekjodhebfaaDoorFmtt
import Derived.Test.YtgdaekjodhebfaaDoorCut
import Derived.Deep.DrawnRows
import Derived.Deep.DeepCutAuto
import Derived.Deep.CutBlock
import Derived.Laws.Concat
namespace Go.Proofs.YtgdaekjodhebfaaDoor
open Go.RowKit
attribute [local go_sem ↓] Go.wp_at_zero Go.wp_at_succ

/-- the two cells of a change in a block of its own -/
structure CXw (X : Nat) (t v : Int) (W : World) : Prop where
  lt : X < W.heap.size
  x0 : W.cell? ⟨X, 0, none⟩ = some (.int .i64 t)
  x1 : W.cell? ⟨X, 1, none⟩ = some (.int .i16 v)
theorem CXw.start (w : World) (t v : Int) (e : TypeId) : CXw w.heap.size t v (w.alloc (.cells #[.int .i64 t, .int .i16 v] e)) := ⟨by simp, (new_change w t v e).1, (new_change w t v e).2⟩
theorem CXw.next {X : Nat} {t v : Int} {W W' : World} (h : CXw X t v W) (hb : Below W.heap.size W W') : CXw X t v W' := ⟨Nat.lt_of_lt_of_le h.lt hb.size, ((bcell hb).1 X 0 h.lt).trans h.x0, ((bcell hb).1 X 1 h.lt).trans h.x1⟩
theorem digit_is : ∀ n : Nat, n < 10 → (⟨#[48, 49, 50, 51, 52, 53, 54, 55, 56, 57]⟩ : ByteArray).extract n (n + 1) = ⟨#[UInt8.ofNat (48 + n)]⟩ := by decide +kernel
set_option maxRecDepth 100000 in
set_option maxHeartbeats 1000000 in
theorem rnumN_c (k : Nat) : ∀ (n : Nat) (w : World), n ≤ k → n ≤ 9223372036854775807 → Calls Tryd.prog 35 #[.int .i64 n] w fun e w' => e = .returned (.string ⟨(Lib.decDigits n).toArray⟩) ∧ Below w.heap.size w w' := by
  induction k using Nat.strongRecOn with
  | _ k ih =>
  intro n w hk hm
  have h0 : ¬ (n : Int) < 0 := by omega
  by_cases hn : n < 10
  · have hn' : (n : Int) < 10 := by omega
    have hd : Lib.decDigits n = [UInt8.ofNat (48 + n)] := Dec.decDigits_small hn
    have hx := digit_is n hn
    have HD := Lib.hid hd
    have HX := Lib.hid hx
    clear hd hx
    have e1 : ((n : Int) + 1).toNat = n + 1 := by omega
    have e2 : (0 : Int) ≤ (n : Int) := by omega
    have e3 : (n : Int) + 1 ≤ 10 := by omega
    go_enter Tryd.func35, Tryd.ntmps35
    go_wp2_with fail
    go_ret
    exact ⟨by rw [HD.out]; exact ret_str HX.out, Below.refl _ _⟩
  · have hn' : ¬ (n : Int) < 10 := by omega
    have hd := Dec.decDigits_big hn
    have hl1 : (Lib.decDigits (n / 10)).length ≤ 19 := Dec.decDigits_len (k := 18) (by omega)
    have hx := digit_is (n % 10) (by omega)
    have HD := Lib.hid hd
    have HX := Lib.hid hx
    clear hd hx
    obtain ⟨q, hq⟩ : ∃ q : Nat, q = n / 10 := ⟨_, rfl⟩
    obtain ⟨r, hr⟩ : ∃ r : Nat, r = n % 10 := ⟨_, rfl⟩
    have hq1 : (n : Int).tdiv 10 = (q : Int) := by rw [Int.tdiv_eq_ediv_of_nonneg (by omega)]; omega
    have hq2 : (n : Int) / 10 = (q : Int) := by omega
    have hr1 : (n : Int).tmod 10 = (r : Int) := by rw [Int.tmod_eq_emod_of_nonneg (by omega)]; omega
    have hr2 : (n : Int) % 10 = (r : Int) := by omega
    rw [← hq] at hl1
    rw [← hq, ← hr] at HD
    rw [← hr] at HX
    have hr10 : r < 10 := by omega
    have ihq := ih q (by omega) q
    have hqm : q ≤ 9223372036854775807 := by omega
    clear hq hr
    have e1 : ((r : Int) + 1).toNat = r + 1 := by omega
    have e2 : (0 : Int) ≤ (r : Int) := by omega
    have e3 : (r : Int) + 1 ≤ 10 := by omega
    have e6 : (r : Int) ≤ (r : Int) + 1 := by omega
    have e7 : r ≤ r + 1 := by omega
    have e8 : r + 1 ≤ 10 := by omega
    have e4 : IntKind.i64.wrap ((r : Int) + 1) = (r : Int) + 1 := IntWalk.i64_in _ (by omega)
    have e5 : IntKind.i64.wrap (q : Int) = (q : Int) := IntWalk.i64_in _ (by omega)
    have hd1 := fun W => run_string_add_sum (P := Tryd.prog) W ⟨(Lib.decDigits q).toArray⟩ ((⟨#[48, 49, 50, 51, 52, 53, 54, 55, 56, 57]⟩ : ByteArray).extract r (r + 1)) (by simp [ByteArray.size]; omega)
    go_enter Tryd.func35, Tryd.ntmps35
    go_wp2_with fail
    have K := w.drewB
    go_region_held3 (fun _ => True) (exact trivial) (first | (go_at_call 35; (with_reducible refine (ihq _ (Nat.le_refl _) hqm).mono ?_); rintro e w2 ⟨rfl, hb2⟩; replace K := bt K hb2))
    all_goals go_wp2_with fail
    all_goals go_ret
    all_goals exact ⟨ret_str (by rw [HD.out, HX.out, show (⟨#[UInt8.ofNat (48 + r)]⟩ : ByteArray) = ⟨([UInt8.ofNat (48 + r)] : List UInt8).toArray⟩ from rfl, bytes_append]), K⟩
set_option maxRecDepth 100000 in
theorem rnum_c (n : Int) (h0 : -9223372036854775807 ≤ n) (h1 : n ≤ 9223372036854775807) (w : World) : Calls Tryd.prog 35 #[.int .i64 n] w fun e w' => e = .returned (.string ⟨(Lib.itoa n).toArray⟩) ∧ Below w.heap.size w w' := by
  by_cases hn : n < 0
  · have HD := Lib.hid (Dec.itoa_neg hn)
    obtain ⟨m, hm⟩ : ∃ m : Nat, n = -(m : Int) := ⟨n.natAbs, by omega⟩
    subst hm
    have hab : (-(m : Int)).natAbs = m := by omega
    rw [hab] at HD
    have hl1 : (Lib.decDigits m).length ≤ 19 := Dec.decDigits_len (k := 18) (by omega)
    have e1 : IntKind.i64.wrap (- -(m : Int)) = (m : Int) := by rw [Int.neg_neg]; exact IntWalk.i64_in _ (by omega)
    have hd1 := fun W => run_string_add_sum (P := Tryd.prog) W ⟨#[45]⟩ ⟨(Lib.decDigits m).toArray⟩ (by simp [ByteArray.size]; omega)
    clear hab
    go_enter Tryd.func35, Tryd.ntmps35
    go_wp2_with fail
    refine (rnumN_c m m _ (Nat.le_refl _) (by omega)).mono ?_
    rintro e w2 ⟨rfl, hb2⟩
    go_wp2_with fail
    go_ret
    exact ⟨ret_str (by rw [HD.out, show (⟨#[45]⟩ : ByteArray) = ⟨([45] : List UInt8).toArray⟩ from rfl, bytes_append]; rfl), hb2⟩
  · obtain ⟨m, rfl⟩ := Int.eq_ofNat_of_zero_le (Int.not_lt.1 hn)
    rw [Dec.itoa_nonneg (Int.not_lt.1 hn)]
    exact rnumN_c m m w (Nat.le_refl _) (by omega)
set_option maxRecDepth 100000 in
set_option maxHeartbeats 1000000 in
theorem rformat_c (l : List (Int × Int)) (hl : l.length ≤ 1000) (hin : InB l) (hpos : ∀ x ∈ l, 0 ≤ x.1) (A : Option Addr) (cap : Nat) (w : World) (C : Chs w A l) : Calls Tryd.prog 25 #[.slice A l.length cap] w fun e w' => e = .returned (.string ⟨(txt l).toArray⟩) ∧ Below w.heap.size w w' := by
  have HC := Lib.hid C
  have HI := Lib.hid hin
  have HP := Lib.hid hpos
  have hl3 : (l.length : Int) ≤ 1000 := by omega
  clear C hin hpos
  go_enter Tryd.func25, Tryd.ntmps25
  go_wp2_with fail
  go_loopw [3, 8] (fun s i wr => ∃ k : Nat, k ≤ l.length ∧ i = .int .i64 k ∧ s = .string ⟨(txt (l.take k)).toArray⟩ ∧ Below w.heap.size w wr) (fun _ i _ => l.length - (intOf i).toNat)
  case atStart => exact ⟨0, by omega, rfl, rfl, Below.refl _ _⟩
  case round =>
    obtain ⟨k, hk, rfl, rfl, hbr⟩ := hrel
    have HB := Lib.hid hbr
    by_cases hlt : k < l.length
    · obtain ⟨ad, rfl, had, c0, c1⟩ := (HC.out.next hbr).at_ k _ (List.getElem?_eq_getElem hlt)
      rw [← add_of_add, add_one] at c1
      have HT := Lib.hid (txt_take hlt)
      have HX := Lib.hid (HI.out l[k] (List.getElem_mem hlt))
      have HPX := Lib.hid (HP.out l[k] (List.getElem_mem hlt))
      have hle := txt_le (l.take k) (fun y hy => HI.out y (List.mem_of_mem_take hy))
      rw [List.length_take] at hle
      have hle2 : (txt (l.take k)).length ≤ 44000 := by omega
      clear hle
      generalize l[k] = x at *
      obtain ⟨t, v⟩ := x
      have x0 : 0 ≤ t := HPX.out
      have x1 : t ≤ 9223372036854775807 := HX.out.1.2
      have v0 : -32768 ≤ v := HX.out.2.1
      have v1 : v ≤ 32767 := HX.out.2.2
      have la := Lib.itoa_length_le t (by omega) (by omega)
      have lb := Lib.itoa_length_le v (by omega) (by omega)
      have r1 := fun W => run_string_add_sum (P := Tryd.prog) W ⟨(Lib.itoa t).toArray⟩ ⟨#[32]⟩ (by simp [ByteArray.size]; omega)
      have r2 := fun W => run_string_add_sum (P := Tryd.prog) W (⟨(Lib.itoa t).toArray⟩ ++ ⟨#[32]⟩) ⟨(Lib.itoa v).toArray⟩ (by simp [ByteArray.size]; omega)
      have r3 := fun W => run_string_add_sum (P := Tryd.prog) W (⟨(Lib.itoa t).toArray⟩ ++ ⟨#[32]⟩ ++ ⟨(Lib.itoa v).toArray⟩) ⟨#[10]⟩ (by simp [ByteArray.size]; omega)
      have r4 := fun W => run_string_add_sum (P := Tryd.prog) W ⟨(txt (l.take k)).toArray⟩ (⟨(Lib.itoa t).toArray⟩ ++ ⟨#[32]⟩ ++ ⟨(Lib.itoa v).toArray⟩ ++ ⟨#[10]⟩) (by simp [ByteArray.size]; omega)
      have HTX := Lib.hid (show (⟨(txt (l.take k) ++ lineT (t, v)).toArray⟩ : ByteArray) = ⟨(txt (l.take k)).toArray⟩ ++ (⟨(Lib.itoa t).toArray⟩ ++ ⟨#[32]⟩ ++ ⟨(Lib.itoa v).toArray⟩ ++ ⟨#[10]⟩) from by
        rw [show (⟨#[32]⟩ : ByteArray) = ⟨([32] : List UInt8).toArray⟩ from rfl, show (⟨#[10]⟩ : ByteArray) = ⟨([10] : List UInt8).toArray⟩ from rfl, bytes_append, bytes_append, bytes_append, bytes_append]; rfl)
      have hw16 : IntKind.i64.wrap v = v := IntWalk.i64_in _ (by omega)
      clear hbr
      go_wp2_with fail
      have hb1 := ba wr (.cells #[.int .i64 t, .int .i16 v] 32)
      have K := CXw.start wr t v 32
      have K2 := bt HB.out hb1
      clear hb1 c0 c1 had
      generalize wr.alloc (.cells #[.int .i64 t, .int .i16 v] 32) = W at *
      generalize wr.heap.size = X at *
      replace K := K.next W.drewB
      replace K2 := bt K2 W.drewB
      go_region_held3 (fun w' => w'.cell? ⟨X, 0, none⟩ = some (.int .i64 t) ∧ w'.cell? ⟨X, 1, none⟩ = some (.int .i16 v)) (first | exact ⟨K.x0, K.x1⟩ | go_keep)
        (first
          | (go_at_call 35; (with_reducible refine (rnum_c t (by omega) (by omega) _).mono ?_); rintro e w1 ⟨rfl, hb1⟩; replace K := K.next hb1; replace K2 := bt K2 hb1)
          | (go_at_call 35; (with_reducible refine (rnum_c v (by omega) (by omega) _).mono ?_); rintro e w1 ⟨rfl, hb1⟩; replace K := K.next hb1; replace K2 := bt K2 hb1))
      all_goals go_wp2_with fail
      all_goals go_roundw
      case rel => exact ⟨k + 1, by omega, by go_num, by rw [HT.out, HTX.out], K2⟩
      case measure => simp [intOf]; omega
    · obtain rfl : k = l.length := by omega
      rw [List.take_length]
      go_wp2_with fail
      go_ret
      exact ⟨rfl, hbr⟩
end Go.Proofs.YtgdaekjodhebfaaDoor
