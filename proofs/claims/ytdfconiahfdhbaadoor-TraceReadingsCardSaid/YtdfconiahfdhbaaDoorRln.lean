/-
  The reference's Num and Line.
-/
import Derived.Test.YtdfconiahfdhbaaDoorLin
import Derived.Test.YtdfconiahfdhbaaDoorCut
namespace Go.Proofs.YtdfconiahfdhbaaDoor
open Go.RowKit
attribute [local go_sem ↓] Go.wp_at_zero Go.wp_at_succ

theorem digit_is : ∀ n : Nat, n < 10 → (⟨#[48, 49, 50, 51, 52, 53, 54, 55, 56, 57]⟩ : ByteArray).extract n (n + 1) = ⟨#[UInt8.ofNat (48 + n)]⟩ := by decide +kernel
set_option maxRecDepth 100000 in
set_option maxHeartbeats 1000000 in
theorem rnumN_c (k : Nat) : ∀ (n : Nat) (w : World), n ≤ k → n ≤ 9223372036854775807 → Calls Tryd.prog 46 #[.int .i64 n] w fun e w' => e = .returned (.string ⟨(Lib.decDigits n).toArray⟩) ∧ Below w.heap.size w w' := by
  induction k using Nat.strongRecOn with
  | _ k ih =>
  intro n w hk hm
  have h0 : ¬ (n : Int) < 0 := by omega
  by_cases hn : n < 10
  · have hn' : (n : Int) < 10 := by omega
    have hd : Lib.decDigits n = [UInt8.ofNat (48 + n)] := Dec.decDigits_small hn
    have hx := digit_is n hn
    have HD := Lib.hid hd
    have HX := Lib.hid hx
    clear hd hx
    have e1 : ((n : Int) + 1).toNat = n + 1 := by omega
    have e2 : (0 : Int) ≤ (n : Int) := by omega
    have e3 : (n : Int) + 1 ≤ 10 := by omega
    go_enter Tryd.func46, Tryd.ntmps46
    go_wp2_with fail
    go_ret
    exact ⟨by rw [HD.out]; exact ret_str HX.out, Below.refl _ _⟩
  · have hn' : ¬ (n : Int) < 10 := by omega
    have hd := Dec.decDigits_big hn
    have hl1 : (Lib.decDigits (n / 10)).length ≤ 19 := Dec.decDigits_len (k := 18) (by omega)
    have hl2 : (Lib.decDigits (n % 10)).length ≤ 1 := Dec.decDigits_len (k := 0) (by omega)
    have HD := Lib.hid hd
    clear hd
    go_enter Tryd.func46, Tryd.ntmps46
    go_wp2_with fail
    rw [show (n : Int) / 10 = ((n / 10 : Nat) : Int) from by omega]
    refine (ih (n / 10) (by omega) (n / 10) _ (Nat.le_refl _) (by omega)).mono ?_
    rintro e w1 ⟨rfl, hb1⟩
    go_wp2_with fail
    rw [show (n : Int) % 10 = ((n % 10 : Nat) : Int) from by omega]
    refine (ih (n % 10) (by omega) (n % 10) _ (Nat.le_refl _) (by omega)).mono ?_
    rintro e w2 ⟨rfl, hb2⟩
    go_wp2_with fail
    go_ret
    exact ⟨by rw [HD.out, ← Dec.decDigits_small (u := n % 10) (by omega), ← bytes_append]; rfl, bt hb1 hb2⟩
set_option maxRecDepth 100000 in
theorem rnum_c (n : Int) (h0 : -9223372036854775807 ≤ n) (h1 : n ≤ 9223372036854775807) (w : World) : Calls Tryd.prog 46 #[.int .i64 n] w fun e w' => e = .returned (.string ⟨(Lib.itoa n).toArray⟩) ∧ Below w.heap.size w w' := by
  by_cases hn : n < 0
  · have HD := Lib.hid (Dec.itoa_neg hn)
    obtain ⟨m, hm⟩ : ∃ m : Nat, n = -(m : Int) := ⟨n.natAbs, by omega⟩
    subst hm
    have hab : (-(m : Int)).natAbs = m := by omega
    rw [hab] at HD
    have hl1 : (Lib.decDigits m).length ≤ 19 := Dec.decDigits_len (k := 18) (by omega)
    have e1 : IntKind.i64.wrap (- -(m : Int)) = (m : Int) := by rw [Int.neg_neg]; exact IntWalk.i64_in _ (by omega)
    have hd1 := fun W => run_string_add_sum (P := Tryd.prog) W ⟨#[45]⟩ ⟨(Lib.decDigits m).toArray⟩ (by simp [ByteArray.size]; omega)
    clear hab
    go_enter Tryd.func46, Tryd.ntmps46
    go_wp2_with fail
    refine (rnumN_c m m _ (Nat.le_refl _) (by omega)).mono ?_
    rintro e w2 ⟨rfl, hb2⟩
    go_wp2_with fail
    go_ret
    exact ⟨ret_str (by rw [HD.out, show (⟨#[45]⟩ : ByteArray) = ⟨([45] : List UInt8).toArray⟩ from rfl, bytes_append]; rfl), hb2⟩
  · obtain ⟨m, rfl⟩ := Int.eq_ofNat_of_zero_le (Int.not_lt.1 hn)
    rw [Dec.itoa_nonneg (Int.not_lt.1 hn)]
    exact rnumN_c m m w (Nat.le_refl _) (by omega)
/-- a valid event's numbers -/
structure VE (e : Ev) : Prop where
  k : 1 ≤ e.kind ∧ e.kind < 13
  t : 0 ≤ e.time ∧ e.time ≤ 1099511627776
  f : ∀ f ∈ flds e, okF f (getE e f) = true
theorem valid_ve {e : Ev} (h : validE e = true) : VE e := by
  unfold validE at h
  simp only [Bool.and_eq_true, decide_eq_true_iff, List.all_eq_true] at h
  exact ⟨by simpa [knownB] using h.1, h.2.1, h.2.2.1⟩
theorem okF_b {f n : Int} (h : okF f n = true) : -32768 ≤ n ∧ n ≤ 1099511627776 := by
  unfold okF at h
  split at h
  · simp at h; omega
  · split at h
    · simp at h; omega
    · split at h
      · simp at h; omega
      · simp at h; omega
theorem str32r (l m : List UInt8) : (⟨l.toArray⟩ : ByteArray) ++ ⟨#[32]⟩ ++ ⟨m.toArray⟩ = ⟨(l ++ 32 :: m).toArray⟩ := by
  rw [show (⟨#[32]⟩ : ByteArray) = ⟨([32] : List UInt8).toArray⟩ from rfl, bytes_append, bytes_append, List.append_assoc]; rfl
set_option maxRecDepth 100000 in
set_option maxHeartbeats 2000000 in
theorem rline_c (e : Ev) (h : InE e) (hv : VE e) (w : World) (hr : Rdy w) : Calls Tryd.prog 35 #[e.v] w fun r w' => r = .returned (.string ⟨(lineN e).toArray⟩) ∧ Below w.heap.size w w' := by
  have HK := Lib.hid (EL.start w e hr 26)
  obtain ⟨_, _, ⟨_, c0, c1, c2, c3, c4, c5, _⟩⟩ := HK.out
  have l1 := itoa_le h.time
  have l2 := kindW_len e.kind.toNat
  have l3 := headE_len h
  have hkk : e.kind.toNat < 13 := by have := hv.k; omega
  have l5 := kindF_len e.kind.toNat hkk
  have hlen : ((kindF e.kind.toNat).length : Int) ≤ 4 := by omega
  have HL := Lib.hid (show lineN e = headE e ++ bodyE e (kindF e.kind.toNat) from rfl)
  have HB4 := Lib.hid (fun j => bodyE_len h ((kindF e.kind.toNat).take j))
  have HKF := Lib.hid (fun f (hf : f ∈ kindF e.kind.toNat) => And.intro (kindF_isF e.kind.toNat hkk f hf) (okF_b (hv.f f hf)))
  have HH := Lib.hid (show (⟨(headE e).toArray⟩ : ByteArray) = ⟨(Lib.itoa e.time).toArray⟩ ++ ⟨#[32]⟩ ++ ⟨(kindW e.kind.toNat).toArray⟩ from by
    rw [show (⟨#[32]⟩ : ByteArray) = ⟨([32] : List UInt8).toArray⟩ from rfl, bytes_append, bytes_append]; rfl)
  have r1 := fun W => run_string_add_sum (P := Tryd.prog) W ⟨(Lib.itoa e.time).toArray⟩ ⟨#[32]⟩ (by simp [ByteArray.size]; omega)
  have r2 := fun W => run_string_add_sum (P := Tryd.prog) W (⟨(Lib.itoa e.time).toArray⟩ ++ ⟨#[32]⟩) ⟨(kindW e.kind.toNat).toArray⟩ (by simp [ByteArray.size]; omega)
  have ht := hv.t
  unfold Ev.v
  clear hv
  go_enter Tryd.func35, Tryd.ntmps35
  go_wp2_with fail
  refine (word_c _ _).mono ?_
  rintro r w1 ⟨A, cap, rfl, N, hb1⟩
  have hlm : ((kindF e.kind.toNat).map rc).length = (kindF e.kind.toNat).length := by simp
  rw [hlm]
  have HN := Lib.hid N
  have HK1 := Lib.hid (HK.out.next hb1)
  clear hb1 N HK hlm c0 c1 c2 c3 c4 c5
  generalize kindF e.kind.toNat = M at *
  generalize kindW e.kind.toNat = ws at *
  obtain ⟨_, _, ⟨_, c0, c1, c2, c3, c4, c5, _⟩⟩ := HK1.out
  go_wp2_with fail
  refine (rnum_c e.time (by omega) (by omega) _).mono ?_
  rintro r w2 ⟨rfl, hb2⟩
  have HK2 := Lib.hid (And.intro (HK1.out.next hb2) (HN.out.next hb2))
  clear hb2 HN HK1 c0 c1 c2 c3 c4 c5
  go_wp2_with fail
  rw [← HH.out]
  clear r1 r2
  go_loopw [5, 22] (fun s i wr => ∃ j : Nat, j ≤ M.length ∧ i = .int .i64 j ∧ s = .string ⟨(headE e ++ bodyE e (M.take j)).toArray⟩ ∧ EL w e wr ∧ Nts wr A (M.map rc)) (fun _ i _ => M.length - (intOf i).toNat)
  case atStart => exact ⟨0, by omega, rfl, by simp [bodyE], HK2.out.1, HK2.out.2⟩
  case round =>
    obtain ⟨j, hj, rfl, rfl, K, N⟩ := hrel
    have hb4 := HB4.out j
    rw [List.length_take] at hb4
    have hb5 : (headE e ++ bodyE e (M.take j)).length ≤ 120 := by rw [List.length_append]; omega
    clear hb4
    have HKJ := Lib.hid (And.intro K N)
    by_cases hlt : j < M.length
    · obtain ⟨ad, rfl, had, hc⟩ := N.at_ j (rc M[j]) (by rw [List.getElem?_map, List.getElem?_eq_getElem hlt]; rfl)
      have HFL := Lib.hid (HKF.out M[j] (List.getElem_mem hlt))
      have HBT := Lib.hid (bodyE_take (e := e) hlt)
      generalize M[j] = f at *
      have gb := getE_b h f
      have hg := itoa_le gb
      obtain ⟨_, _, ⟨_, c0, c1, c2, c3, c4, c5, _⟩⟩ := K
      clear N
      generalize bodyE e (M.take j) = bo at *
      have r3 := fun W => run_string_add_sum (P := Tryd.prog) W ⟨(headE e ++ bo).toArray⟩ ⟨#[32]⟩ (by simp [ByteArray.size] at *; omega)
      have r4 := fun W => run_string_add_sum (P := Tryd.prog) W (⟨(headE e ++ bo).toArray⟩ ++ ⟨#[32]⟩) ⟨(Lib.itoa (getE e f)).toArray⟩ (by simp [ByteArray.size] at *; omega)
      go_wp2_with fail
      refine (rget_c e h f HFL.out.1 _).mono ?_
      rintro r w3 ⟨rfl, hb3⟩
      have K3 := Lib.hid (And.intro (HKJ.out.1.next hb3) (HKJ.out.2.next hb3))
      clear hb3 c0 c1 c2 c3 c4 c5 hc
      go_wp2_with fail
      refine (rnum_c (getE e f) (by have := HFL.out.2; omega) (by have := HFL.out.2; omega) _).mono ?_
      rintro r w4 ⟨rfl, hb4⟩
      have K4 := Lib.hid (And.intro (K3.out.1.next hb4) (K3.out.2.next hb4))
      clear hb4 K3
      go_wp2_with fail
      go_roundw
      case rel => exact ⟨j + 1, by omega, by go_num, by rw [HBT.out, str32r]; simp, K4.out.1, K4.out.2⟩
      case measure => simp [intOf]; omega
    · obtain rfl : j = M.length := by omega
      rw [List.take_length]
      clear K N
      go_wp2_with fail
      go_ret
      exact ⟨ret_str (by rw [HL.out]), HKJ.out.1.below⟩
end Go.Proofs.YtdfconiahfdhbaaDoor
