/-
  trickleref11: register, Valid.
-/
import Derived.Test.YtpgjmegecfaijaaDoorRef
namespace Go.Proofs.YtpgjmegecfaijaaDoor
open Go.RowKit

theorem has_shp : ∀ n, (decide ((97 : UInt8) ∈ (shs (shp n)).data.toList) = decide ((0 : Int) ∈ shp n)) ∧ (decide ((98 : UInt8) ∈ (shs (shp n)).data.toList) = decide ((1 : Int) ∈ shp n)) ∧ (decide ((99 : UInt8) ∈ (shs (shp n)).data.toList) = decide ((2 : Int) ∈ shp n)) ∧ (decide ((105 : UInt8) ∈ (shs (shp n)).data.toList) = decide ((3 : Int) ∈ shp n)) := by
  intro n
  unfold shp
  split <;> decide
theorem shs_size (n : Nat) : (shs (shp n)).size ≤ 3 := by
  have := shp_len n
  simpa [shs, ByteArray.size] using this
theorem has_0 (n : Nat) (w : World) : Calls Tryd.prog 42 #[.string (shs (shp n)), .int .u8 97] w fun e w' => e = .returned (.bool (decide ((0 : Int) ∈ shp n))) ∧ w' = w := by
  have h := has_c (shs (shp n)) (by have := shs_size n; omega) 97 w
  rw [(has_shp n).1] at h
  exact h
theorem has_1 (n : Nat) (w : World) : Calls Tryd.prog 42 #[.string (shs (shp n)), .int .u8 98] w fun e w' => e = .returned (.bool (decide ((1 : Int) ∈ shp n))) ∧ w' = w := by
  have h := has_c (shs (shp n)) (by have := shs_size n; omega) 98 w
  rw [(has_shp n).2.1] at h
  exact h
theorem has_2 (n : Nat) (w : World) : Calls Tryd.prog 42 #[.string (shs (shp n)), .int .u8 99] w fun e w' => e = .returned (.bool (decide ((2 : Int) ∈ shp n))) ∧ w' = w := by
  have h := has_c (shs (shp n)) (by have := shs_size n; omega) 99 w
  rw [(has_shp n).2.2.1] at h
  exact h
theorem has_3 (n : Nat) (w : World) : Calls Tryd.prog 42 #[.string (shs (shp n)), .int .u8 105] w fun e w' => e = .returned (.bool (decide ((3 : Int) ∈ shp n))) ∧ w' = w := by
  have h := has_c (shs (shp n)) (by have := shs_size n; omega) 105 w
  rw [(has_shp n).2.2.2] at h
  exact h
def reg (n : Nat) (o x : Int) : Bool := if o ∈ shp n then decide (0 ≤ x ∧ x < 8) else decide (x = 0)
theorem reg_0 (n : Nat) (x : Int) (w : World) : Calls Tryd.prog 41 #[.string (shs (shp n)), .int .u8 97, .int .i64 x] w fun e w' => e = .returned (.bool (reg n 0 x)) ∧ w' = w := by
  go_enter Tryd.func41, Tryd.ntmps41
  go_wp2_with fail
  refine (has_0 n _).mono ?_
  rintro e w1 ⟨rfl, rfl⟩
  by_cases h : (0 : Int) ∈ shp n
  · go_wp2_with fail
    all_goals go_ret
    all_goals exact ⟨ret_bool (by simp [reg, h]; omega), rfl⟩
  · go_wp2_with fail
    all_goals go_ret
    all_goals exact ⟨ret_bool (by simp only [reg, h, if_false]; rfl), rfl⟩
theorem reg_1 (n : Nat) (x : Int) (w : World) : Calls Tryd.prog 41 #[.string (shs (shp n)), .int .u8 98, .int .i64 x] w fun e w' => e = .returned (.bool (reg n 1 x)) ∧ w' = w := by
  go_enter Tryd.func41, Tryd.ntmps41
  go_wp2_with fail
  refine (has_1 n _).mono ?_
  rintro e w1 ⟨rfl, rfl⟩
  by_cases h : (1 : Int) ∈ shp n
  · go_wp2_with fail
    all_goals go_ret
    all_goals exact ⟨ret_bool (by simp [reg, h]; omega), rfl⟩
  · go_wp2_with fail
    all_goals go_ret
    all_goals exact ⟨ret_bool (by simp only [reg, h, if_false]; rfl), rfl⟩
theorem reg_2 (n : Nat) (x : Int) (w : World) : Calls Tryd.prog 41 #[.string (shs (shp n)), .int .u8 99, .int .i64 x] w fun e w' => e = .returned (.bool (reg n 2 x)) ∧ w' = w := by
  go_enter Tryd.func41, Tryd.ntmps41
  go_wp2_with fail
  refine (has_2 n _).mono ?_
  rintro e w1 ⟨rfl, rfl⟩
  by_cases h : (2 : Int) ∈ shp n
  · go_wp2_with fail
    all_goals go_ret
    all_goals exact ⟨ret_bool (by simp [reg, h]; omega), rfl⟩
  · go_wp2_with fail
    all_goals go_ret
    all_goals exact ⟨ret_bool (by simp only [reg, h, if_false]; rfl), rfl⟩

theorem nam_in : ∀ n, 1 ≤ n → n ≤ 30 → nam n ≠ ⟨#[]⟩ := by
  intro n h0 h1
  have : n = 1 ∨ n = 2 ∨ n = 3 ∨ n = 4 ∨ n = 5 ∨ n = 6 ∨ n = 7 ∨ n = 8 ∨ n = 9 ∨ n = 10 ∨ n = 11 ∨ n = 12 ∨ n = 13 ∨ n = 14 ∨ n = 15 ∨ n = 16 ∨ n = 17 ∨ n = 18 ∨ n = 19 ∨ n = 20 ∨ n = 21 ∨ n = 22 ∨ n = 23 ∨ n = 24 ∨ n = 25 ∨ n = 26 ∨ n = 27 ∨ n = 28 ∨ n = 29 ∨ n = 30 := by omega
  rcases this with rfl|rfl|rfl|rfl|rfl|rfl|rfl|rfl|rfl|rfl|rfl|rfl|rfl|rfl|rfl|rfl|rfl|rfl|rfl|rfl|rfl|rfl|rfl|rfl|rfl|rfl|rfl|rfl|rfl|rfl <;> decide

def immR (op m : Int) : Bool := if (3 : Int) ∈ shp op.toNat then (if op = 2 then true else decide (0 ≤ m ∧ m < lim op ∧ (lim op = 16383 → m % 2 = 0))) else decide (m = 0)
theorem immR_eq {op m : Int} (h : 1 ≤ op ∧ op ≤ 30) : immR op m = ((!decide ((3 : Int) ∈ shp op.toNat) || immOk op m) && (kept (shp op.toNat) 3 m == m)) := by
  rcases ops_cases h with rfl|rfl|rfl|rfl|rfl|rfl|rfl|rfl|rfl|rfl|rfl|rfl|rfl|rfl|rfl|rfl|rfl|rfl|rfl|rfl|rfl|rfl|rfl|rfl|rfl|rfl|rfl|rfl|rfl|rfl <;> simp [immR, shp, immOk, lim, kept] <;> rw [Bool.eq_iff_iff] <;> simp <;> omega
theorem vld_eq {op a b c m : Int} (h : 1 ≤ op ∧ op ≤ 30) : vld op a b c m = (reg op.toNat 0 a && (reg op.toNat 1 b && (reg op.toNat 2 c && immR op m))) := by
  rw [immR_eq h]
  unfold vld
  rw [show decide (1 ≤ op ∧ op ≤ 30) = true from by simp [h]]
  have h3 := shp_in op.toNat
  generalize hl : shp op.toNat = l
  have hs : l = [] ∨ l = [0] ∨ l = [0, 1] ∨ l = [0, 1, 2] ∨ l = [0, 3] ∨ l = [3] ∨ l = [0, 1, 3] := by
    rw [← hl]; unfold shp; split <;> simp
  unfold reg
  rw [hl]
  rcases hs with rfl | rfl | rfl | rfl | rfl | rfl | rfl <;> simp [fits, fieldOf, kept] <;> rw [Bool.eq_iff_iff] <;> simp <;> first | omega | (cases hq : immOk op m <;> simp <;> omega)

theorem rvalid_c (op a b c m : Int) (hm : -32768 ≤ m ∧ m ≤ 32767) (w : World) : Calls Tryd.prog 13 #[code op a b c m] w fun e w' => e = .returned (.bool (vld op a b c m)) ∧ Below w.heap.size w w' := by
  by_cases ho : 1 ≤ op ∧ op ≤ 30
  · have hn : (nam op.toNat).toList.isEmpty = false := by
      rw [← decide_eq_emptyBytes]
      exact decide_eq_false (nam_in op.toNat (by omega) (by omega))
    have HO := Lib.hid ho
    have HV := Lib.hid (vld_eq (a := a) (b := b) (c := c) (m := m) ho)
    clear ho
    go_enter Tryd.func13, Tryd.ntmps13
    go_wp2_with fail
    refine (mnem_c op _).mono ?_
    rintro e w1 ⟨rfl, hb1⟩
    have C := (Cod.new (w := w) op a b c m 24).next hb1
    obtain ⟨lt, c0, c1, c2, c3, c4, f0, f1, f2, f3, f4⟩ := C
    have kb1 : Below w.heap.size w w1 := bt (ba w _) hb1
    go_wp2_with fail
    refine (shape_c op _).mono ?_
    rintro e w2 ⟨rfl, rfl⟩
    go_wp2_with fail
    refine (reg_0 op.toNat a _).mono ?_
    rintro e w2 ⟨rfl, rfl⟩
    cases h0 : reg op.toNat 0 a
    · go_wp2_with fail
      go_ret
      exact ⟨ret_bool (by rw [HV.out, h0]; rfl), kb1⟩
    go_wp2_with fail
    refine (reg_1 op.toNat b _).mono ?_
    rintro e w2 ⟨rfl, rfl⟩
    cases h1 : reg op.toNat 1 b
    · go_wp2_with fail
      go_ret
      exact ⟨ret_bool (by rw [HV.out, h0, h1]; rfl), kb1⟩
    go_wp2_with fail
    refine (reg_2 op.toNat c _).mono ?_
    rintro e w2 ⟨rfl, rfl⟩
    cases h2 : reg op.toNat 2 c
    · go_wp2_with fail
      go_ret
      exact ⟨ret_bool (by rw [HV.out, h0, h1, h2]; rfl), kb1⟩
    have HV2 := Lib.hid (show vld op a b c m = immR op m from by rw [HV.out, h0, h1, h2]; rfl)
    clear h0 h1 h2
    go_wp2_with fail
    refine (has_3 op.toNat _).mono ?_
    rintro e w2 ⟨rfl, rfl⟩
    by_cases h3 : (3 : Int) ∈ shp op.toNat
    · by_cases h4 : op = 2
      · subst h4
        have HV3 := Lib.hid (show vld 2 a b c m = true from by rw [HV2.out]; rfl)
        clear HV2 HV
        go_wp2_with fail
        go_ret
        exact ⟨ret_bool HV3.out.symm, kb1⟩
      · have HV3 := Lib.hid (show vld op a b c m = decide (0 ≤ m ∧ m < lim op ∧ (lim op = 16383 → m % 2 = 0)) from by rw [HV2.out]; unfold immR; rw [if_pos h3, if_neg h4])
        go_wp2_with fail
        refine (lim_c op _).mono ?_
        rintro e w2 ⟨rfl, rfl⟩
        have hlo : 0 ≤ lim op := by unfold lim; repeat' split
                                    all_goals omega
        by_cases h6 : 0 ≤ m
        · by_cases h5 : lim op = 16383
          · have HL := Lib.hid h5
            by_cases h7 : m % 2 = 0
            · have H7 := Lib.hid h7
              go_wp2_with fail
              refine (lim_c op _).mono ?_
              rintro e w2 ⟨rfl, rfl⟩
              go_wp2_with fail
              go_ret
              exact ⟨ret_bool (by rw [HV3.out, HL.out]; have := H7.out; rw [decide_eq_decide]; omega), kb1⟩
            · have H7 := Lib.hid h7
              go_wp2_with fail
              go_ret
              exact ⟨ret_bool (by rw [HV3.out, HL.out]; have := H7.out; symm; rw [decide_eq_false_iff_not]; omega), kb1⟩
          · have HL := Lib.hid h5
            go_wp2_with fail
            refine (lim_c op _).mono ?_
            rintro e w2 ⟨rfl, rfl⟩
            go_wp2_with fail
            go_ret
            exact ⟨ret_bool (by rw [HV3.out]; have := HL.out; rw [decide_eq_decide]; omega), kb1⟩
        · have H6 := Lib.hid (show vld op a b c m = false from by rw [HV3.out, decide_eq_false_iff_not]; omega)
          clear HV3
          have hm1 : m < 0 := by omega
          by_cases h5 : lim op = 16383
          · have HL := Lib.hid h5
            go_wp2_with fail
            all_goals go_ret
            all_goals exact ⟨ret_bool H6.out.symm, kb1⟩
          · have HL := Lib.hid h5
            go_wp2_with fail
            all_goals go_ret
            all_goals exact ⟨ret_bool H6.out.symm, kb1⟩
    · have HV3 := Lib.hid (show vld op a b c m = decide (m = 0) from by rw [HV2.out]; unfold immR; rw [if_neg h3])
      go_wp2_with fail
      go_ret
      exact ⟨ret_bool (by rw [HV3.out]; rfl), kb1⟩
  · have H := Lib.hid ho
    clear ho
    have hn := nam_out (op := op) (by have := H.out; omega)
    go_enter Tryd.func13, Tryd.ntmps13
    go_wp2_with fail
    refine (mnem_c op _).mono ?_
    rintro e w1 ⟨rfl, hb1⟩
    rw [hn]
    go_wp2_with fail
    go_ret
    exact ⟨ret_bool (vld_out (by have := H.out; omega)).symm, bt (ba w _) hb1⟩
end Go.Proofs.YtpgjmegecfaijaaDoor
