/-
  Same: whether two schedules are equal.
-/
import Derived.Test.YtabfjiapoafgaaaDoorVal
namespace Go.Proofs.YtabfjiapoafgaaaDoor
open Go.RowKit
set_option linter.unusedVariables false
attribute [local go_sem ↓] Go.wp_at_zero Go.wp_at_succ

@[go_sem] theorem eq38 (a b c d : Int) (w : World) : (Op.equalIn 10000 38 (.agg #[.int .i64 a, .int .i64 b]) (.agg #[.int .i64 c, .int .i64 d])).run Tryd.prog w = .ok (a == c && b == d) w := by
  have u3 := Tryd.underlying2
  have a3 := Tryd.isAgg2
  have z3 := Tryd.sizeOf2
  have u22 := Tryd.underlying3
  have a22 := Tryd.isAgg3
  have z22 := Tryd.sizeOf3
  have hS : Tryd.prog.underlying 38 = some (.struct (Tryd.prog.fieldsOf 38)) := by kernel_rfl
  have hp : Tryd.prog.stoodInHeld 38 = false := by kernel_rfl
  rw [show (10000 : Nat) = 9999 + 1 from rfl, run_equalIn_agg w 9999 38 _ _ hS hp]
  simp only [Program.fieldsOf, Tryd.underlying38]
  go_simp
  by_cases h1 : a = c <;> by_cases h2 : b = d <;> simp [h1, h2]
theorem take_eq_snoc {a b : List (Int × Int)} {k : Nat} (ha : k < a.length) (hb : k < b.length) (h : a.take k = b.take k) (e : a[k] = b[k]) : a.take (k + 1) = b.take (k + 1) := by
  rw [List.take_succ_eq_append_getElem ha, List.take_succ_eq_append_getElem hb, h, e]
theorem ne_at {a b : List (Int × Int)} {k : Nat} (ha : k < a.length) (hb : k < b.length) (e : a[k] ≠ b[k]) : decide (a = b) = false := by
  rw [decide_eq_false_iff_not]
  rintro rfl
  exact e rfl
set_option maxRecDepth 100000 in
set_option maxHeartbeats 1000000 in
theorem same_c (a b : List (Int × Int)) (hla : a.length ≤ 100000) (hlb : b.length ≤ 100000) (A B : Option Addr) (ca cb : Nat) (w : World) (CA : Prs w A a) (CB : Prs w B b) : Calls Tryd.prog 18 #[.slice A a.length ca, .slice B b.length cb] w fun e w' => e = .returned (.bool (decide (a = b))) ∧ Below w.heap.size w w' := by
  by_cases hll : a.length = b.length
  · have HA := Lib.hid CA
    have HB := Lib.hid CB
    have hl3 : (a.length : Int) ≤ 100000 := by omega
    have HLL := Lib.hid hll
    have hq : (b.length : Int) = (a.length : Int) := by omega
    have hbb : ((a.length : Int) != (b.length : Int)) = false := by simp [hll]
    clear CA CB
    rw [← hll]
    clear hll hbb hq
    go_enter Tryd.func18, Tryd.ntmps18
    go_wp2_with fail
    go_loopw [5] (fun i wr => ∃ k : Nat, k ≤ a.length ∧ i = .int .i64 k ∧ a.take k = b.take k ∧ Below w.heap.size w wr) (fun i _ => a.length - (intOf i).toNat)
    case atStart => exact ⟨0, by omega, rfl, rfl, Below.refl _ _⟩
    case round =>
      obtain ⟨k, hk, rfl, htk, hbr⟩ := hrel
      have HTK := Lib.hid htk
      clear htk
      by_cases hlt : k < a.length
      · have hltb : k < b.length := by rw [← HLL.out]; exact hlt
        obtain ⟨ad, rfl, had, c0, c1⟩ := (HA.out.next hbr).at_ k _ (List.getElem?_eq_getElem hlt)
        obtain ⟨bd, rfl, hbd, d0, d1⟩ := (HB.out.next hbr).at_ k _ (List.getElem?_eq_getElem hltb)
        rw [← add_of_add, add_one] at c1 d1
        have HEQ := Lib.hid (fun e => take_eq_snoc hlt hltb HTK.out e)
        have HNE := Lib.hid (fun e => ne_at hlt hltb e)
        generalize a[k] = x at *
        generalize b[k] = y at *
        obtain ⟨tx, vx⟩ := x
        obtain ⟨ty, vy⟩ := y
        have hk0 : (0 : Int) ≤ (k : Int) := by omega
        have hk1 : (k : Int) < (a.length : Int) := by omega
        have HBR := Lib.hid hbr
        clear hbr hltb
        by_cases h1 : tx = ty
        · subst h1
          by_cases h2 : vx = vy
          · subst h2
            have HX := Lib.hid (HEQ.out rfl)
            clear HEQ HNE
            go_wp2_with fail
            go_quiet (fail)
            go_wp2_with fail
            go_roundw
            case rel => exact ⟨k + 1, by omega, by go_num, HX.out, bdn HBR.out _⟩
            case measure => simp [intOf]; omega
          · have HX := Lib.hid (HNE.out (fun e => h2 (congrArg Prod.snd e)))
            clear HEQ HNE
            go_wp2_with fail
            go_quiet (fail)
            go_wp2_with fail
            go_ret
            exact ⟨ret_bool HX.out.symm, bdn HBR.out _⟩
        · have HX := Lib.hid (HNE.out (fun e => h1 (congrArg Prod.fst e)))
          clear HEQ HNE
          go_wp2_with fail
          go_quiet (fail)
          go_wp2_with fail
          go_ret
          exact ⟨ret_bool HX.out.symm, bdn HBR.out _⟩
      · obtain rfl : k = a.length := by omega
        have HE := Lib.hid (show a = b from by
          have := HTK.out
          rw [List.take_length, HLL.out, List.take_length] at this
          exact this)
        go_wp2_with fail
        go_ret
        exact ⟨ret_bool (by rw [decide_eq_true HE.out]), hbr⟩
  · have hll2 : ¬ (a.length : Int) = (b.length : Int) := by omega
    have HE := Lib.hid (show decide (a = b) = false from by
      rw [decide_eq_false_iff_not]
      intro e; exact hll (by rw [e]))
    go_enter Tryd.func18, Tryd.ntmps18
    go_wp2_with fail
    go_ret
    exact ⟨ret_bool HE.out.symm, Below.refl _ _⟩
end Go.Proofs.YtabfjiapoafgaaaDoor
