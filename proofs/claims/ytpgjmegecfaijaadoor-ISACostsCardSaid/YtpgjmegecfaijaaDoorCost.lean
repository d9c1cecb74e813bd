/-
  The costs of operations: isa.Energy, Ticks, NVMWrites and those of trickleref11.
-/
import Derived.Test.YtpgjmegecfaijaaDoorWakes
namespace Go.Proofs.YtpgjmegecfaijaaDoor
open Go.RowKit

def cE (op : Int) : Int := if op = 23 then 8 else if op = 24 then 10 else if op = 25 then 4 else if op = 26 then 6 else if op = 15 ∨ op = 17 then 3 else if op = 27 ∨ op = 28 then 6 else if op = 29 then 2 else if 1 ≤ op ∧ op ≤ 30 then 1 else 0
def cT (op : Int) : Int := if op = 23 then 4 else if op = 24 then 2 else if op = 25 then 2 else if op = 26 then 2 else if op = 15 ∨ op = 17 then 2 else if op = 27 ∨ op = 28 then 4 else if op = 29 then 2 else if 1 ≤ op ∧ op ≤ 30 then 1 else 0
def cW (op : Int) : Int := if op = 23 then 0 else if op = 24 then 8 else if op = 25 then 2 else if op = 26 then 4 else if op = 15 ∨ op = 17 then 2 else if op = 27 ∨ op = 28 then 5 else 0
theorem ret_three {a b c d e f : Int} (h1 : a = d) (h2 : b = e) (h3 : c = f) : Ending.returned (.tuple #[.int .i64 a, .int .i64 b, .int .i64 c]) = .returned (.tuple #[.int .i64 d, .int .i64 e, .int .i64 f]) := by rw [h1, h2, h3]
set_option maxHeartbeats 4000000 in
theorem costs_c (op : Int) (w : World) : Calls Tryd.prog 45 #[.int .i64 op] w fun e w' => e = .returned (.tuple #[.int .i64 (cE op), .int .i64 (cT op), .int .i64 (cW op)]) ∧ Below w.heap.size w w' := by
  by_cases ho : 1 ≤ op ∧ op ≤ 30
  · have HO := Lib.hid ho
    clear ho
    go_enter Tryd.func45, Tryd.ntmps45
    go_wp2_with fail
    all_goals try (refine (describe_any op _).mono ?_; rintro e w2 ⟨sa, rfl, L, hb2⟩; rw [decide_eq_true HO.out]; clear L)
    all_goals go_wp2_with fail
    all_goals go_ret3
    all_goals refine ⟨ret_three ?_ ?_ ?_, by first | exact Below.refl _ _ | exact hb2 | exact bt hb2 (ba _ _)⟩
    all_goals go_light
    all_goals simp only [beq_iff_eq, beq_eq_false_iff_ne, ne_eq] at *
    all_goals have := HO.out
    all_goals (simp only [cE, cT, cW]; simp [*]; try omega)
  · have HO := Lib.hid ho
    have hn : ¬ op = 23 ∧ ¬ op = 24 ∧ ¬ op = 25 ∧ ¬ op = 26 ∧ ¬ op = 15 ∧ ¬ op = 17 ∧ ¬ op = 27 ∧ ¬ op = 28 ∧ ¬ op = 29 := by omega
    obtain ⟨h1, h2, h3, h4, h5, h6, h7, h8, h9⟩ := hn
    clear ho
    go_enter Tryd.func45, Tryd.ntmps45
    go_wp2_with fail
    all_goals try (refine (describe_any op _).mono ?_; rintro e w2 ⟨sa, rfl, L, hb2⟩; rw [decide_eq_false HO.out]; clear L)
    all_goals go_wp2_with fail
    all_goals go_ret3
    all_goals refine ⟨ret_three ?_ ?_ ?_, by first | exact Below.refl _ _ | exact hb2 | exact bt hb2 (ba _ _)⟩
    all_goals have := HO.out
    all_goals (simp only [cE, cT, cW]; simp [*]; try omega)
theorem energy_c (op : Int) (w : World) : Calls Tryd.prog 18 #[.int .i64 op] w fun e w' => e = .returned (.int .i64 (cE op)) ∧ Below w.heap.size w w' := by
  go_enter Tryd.func18, Tryd.ntmps18
  go_wp2_with fail
  refine (costs_c op _).mono ?_
  rintro e w1 ⟨rfl, hb1⟩
  go_wp2_with fail
  go_ret
  exact ⟨rfl, hb1⟩
theorem ticks_c (op : Int) (w : World) : Calls Tryd.prog 20 #[.int .i64 op] w fun e w' => e = .returned (.int .i64 (cT op)) ∧ Below w.heap.size w w' := by
  go_enter Tryd.func20, Tryd.ntmps20
  go_wp2_with fail
  refine (costs_c op _).mono ?_
  rintro e w1 ⟨rfl, hb1⟩
  go_wp2_with fail
  go_ret
  exact ⟨rfl, hb1⟩
theorem writes_c (op : Int) (w : World) : Calls Tryd.prog 22 #[.int .i64 op] w fun e w' => e = .returned (.int .i64 (cW op)) ∧ Below w.heap.size w w' := by
  go_enter Tryd.func22, Tryd.ntmps22
  go_wp2_with fail
  refine (costs_c op _).mono ?_
  rintro e w1 ⟨rfl, hb1⟩
  go_wp2_with fail
  go_ret
  exact ⟨rfl, hb1⟩
theorem renergy_c (op : Int) (w : World) : Calls Tryd.prog 19 #[.int .i64 op] w fun e w' => e = .returned (.int .i64 (cE op)) ∧ Below w.heap.size w w' := by
  by_cases ho : 1 ≤ op ∧ op ≤ 30
  · have hn : (nam op.toNat).toList.isEmpty = false := by
      rw [← decide_eq_emptyBytes]
      exact decide_eq_false (nam_in op.toNat (by omega) (by omega))
    have HO := Lib.hid ho
    clear ho
    go_enter Tryd.func19, Tryd.ntmps19
    go_wp2_with fail
    all_goals try (refine (mnem_c op _).mono ?_; rintro e w2 ⟨rfl, hb2⟩)
    all_goals go_wp2_with fail
    all_goals go_ret
    all_goals refine ⟨ret_int ?_, by first | exact Below.refl _ _ | exact hb2⟩
    all_goals go_light
    all_goals simp only [beq_iff_eq, beq_eq_false_iff_ne, ne_eq] at *
    all_goals have := HO.out
    all_goals (simp only [cE]; simp [*]; try omega)
  · have hn := nam_out (op := op) (by omega)
    have HO := Lib.hid ho
    have hx : ¬ op = 23 ∧ ¬ op = 24 ∧ ¬ op = 25 ∧ ¬ op = 26 ∧ ¬ op = 15 ∧ ¬ op = 17 ∧ ¬ op = 27 ∧ ¬ op = 28 ∧ ¬ op = 29 := by omega
    obtain ⟨h1, h2, h3, h4, h5, h6, h7, h8, h9⟩ := hx
    clear ho
    go_enter Tryd.func19, Tryd.ntmps19
    go_wp2_with fail
    all_goals try (refine (mnem_c op _).mono ?_; rintro e w2 ⟨rfl, hb2⟩; rw [hn])
    all_goals go_wp2_with fail
    all_goals go_ret
    all_goals refine ⟨ret_int ?_, by first | exact Below.refl _ _ | exact hb2⟩
    all_goals have := HO.out
    all_goals (simp only [cE]; simp [*]; try omega)
theorem rticks_c (op : Int) (w : World) : Calls Tryd.prog 21 #[.int .i64 op] w fun e w' => e = .returned (.int .i64 (cT op)) ∧ Below w.heap.size w w' := by
  by_cases ho : 1 ≤ op ∧ op ≤ 30
  · have hn : (nam op.toNat).toList.isEmpty = false := by
      rw [← decide_eq_emptyBytes]
      exact decide_eq_false (nam_in op.toNat (by omega) (by omega))
    have HO := Lib.hid ho
    clear ho
    go_enter Tryd.func21, Tryd.ntmps21
    go_wp2_with fail
    all_goals try (refine (mnem_c op _).mono ?_; rintro e w2 ⟨rfl, hb2⟩)
    all_goals go_wp2_with fail
    all_goals go_ret
    all_goals refine ⟨ret_int ?_, by first | exact Below.refl _ _ | exact hb2⟩
    all_goals go_light
    all_goals simp only [beq_iff_eq, beq_eq_false_iff_ne, ne_eq] at *
    all_goals have := HO.out
    all_goals (simp only [cT]; simp [*]; try omega)
  · have hn := nam_out (op := op) (by omega)
    have HO := Lib.hid ho
    have hx : ¬ op = 23 ∧ ¬ op = 24 ∧ ¬ op = 25 ∧ ¬ op = 26 ∧ ¬ op = 15 ∧ ¬ op = 17 ∧ ¬ op = 27 ∧ ¬ op = 28 ∧ ¬ op = 29 := by omega
    obtain ⟨h1, h2, h3, h4, h5, h6, h7, h8, h9⟩ := hx
    clear ho
    go_enter Tryd.func21, Tryd.ntmps21
    go_wp2_with fail
    all_goals try (refine (mnem_c op _).mono ?_; rintro e w2 ⟨rfl, hb2⟩; rw [hn])
    all_goals go_wp2_with fail
    all_goals go_ret
    all_goals refine ⟨ret_int ?_, by first | exact Below.refl _ _ | exact hb2⟩
    all_goals have := HO.out
    all_goals (simp only [cT]; simp [*]; try omega)
theorem rwrites_c (op : Int) (w : World) : Calls Tryd.prog 23 #[.int .i64 op] w fun e w' => e = .returned (.int .i64 (cW op)) ∧ Below w.heap.size w w' := by
  go_enter Tryd.func23, Tryd.ntmps23
  go_wp2_with fail
  all_goals go_ret
  all_goals refine ⟨ret_int ?_, Below.refl _ _⟩
  all_goals go_light
  all_goals simp only [beq_iff_eq, beq_eq_false_iff_ne, ne_eq] at *
  all_goals (simp only [cW]; simp [*]; try omega)
theorem cW_lt (op : Int) : cW op < cE op ∨ cE op = 0 := by unfold cW cE; repeat' split; all_goals omega
theorem costs_law (op : Int) (w : World) (hr : TabR w) : Calls Tryd.prog 6 #[.int .i64 op] w fun e w' => e = .returned (.bool true) ∧ Below w.heap.size w w' := by
  have hcase := cW_lt op
  by_cases hc : cW op < cE op
  · clear hcase
    go_enter Tryd.func6, Tryd.ntmps6
    go_wp2_with fail
    refine (wakes_c _ hr).mono ?_
    rintro e w1 ⟨rfl, hb1⟩
    go_wp2_with fail
    refine (energy_c op _).mono ?_
    rintro e w2 ⟨rfl, hb2⟩
    replace hb1 := bt hb1 hb2
    clear hb2
    go_wp2_with fail
    refine (renergy_c op _).mono ?_
    rintro e w2 ⟨rfl, hb2⟩
    replace hb1 := bt hb1 hb2
    clear hb2
    go_wp2_with fail
    refine (ticks_c op _).mono ?_
    rintro e w2 ⟨rfl, hb2⟩
    replace hb1 := bt hb1 hb2
    clear hb2
    go_wp2_with fail
    refine (rticks_c op _).mono ?_
    rintro e w2 ⟨rfl, hb2⟩
    replace hb1 := bt hb1 hb2
    clear hb2
    go_wp2_with fail
    refine (writes_c op _).mono ?_
    rintro e w2 ⟨rfl, hb2⟩
    replace hb1 := bt hb1 hb2
    clear hb2
    go_wp2_with fail
    refine (rwrites_c op _).mono ?_
    rintro e w2 ⟨rfl, hb2⟩
    replace hb1 := bt hb1 hb2
    clear hb2
    go_wp2_with fail
    refine (writes_c op _).mono ?_
    rintro e w2 ⟨rfl, hb2⟩
    replace hb1 := bt hb1 hb2
    clear hb2
    go_wp2_with fail
    refine (energy_c op _).mono ?_
    rintro e w2 ⟨rfl, hb2⟩
    replace hb1 := bt hb1 hb2
    clear hb2
    go_wp2_with fail
    go_ret
    exact ⟨rfl, hb1⟩
  · have hz : cE op = 0 := by omega
    have HZ := Lib.hid hz
    have hW : 0 ≤ cW op := by unfold cW; repeat' split; all_goals omega
    clear hcase hz
    go_enter Tryd.func6, Tryd.ntmps6
    go_wp2_with fail
    refine (wakes_c _ hr).mono ?_
    rintro e w1 ⟨rfl, hb1⟩
    go_wp2_with fail
    refine (energy_c op _).mono ?_
    rintro e w2 ⟨rfl, hb2⟩
    replace hb1 := bt hb1 hb2
    clear hb2
    go_wp2_with fail
    refine (renergy_c op _).mono ?_
    rintro e w2 ⟨rfl, hb2⟩
    replace hb1 := bt hb1 hb2
    clear hb2
    go_wp2_with fail
    refine (ticks_c op _).mono ?_
    rintro e w2 ⟨rfl, hb2⟩
    replace hb1 := bt hb1 hb2
    clear hb2
    go_wp2_with fail
    refine (rticks_c op _).mono ?_
    rintro e w2 ⟨rfl, hb2⟩
    replace hb1 := bt hb1 hb2
    clear hb2
    go_wp2_with fail
    refine (writes_c op _).mono ?_
    rintro e w2 ⟨rfl, hb2⟩
    replace hb1 := bt hb1 hb2
    clear hb2
    go_wp2_with fail
    refine (rwrites_c op _).mono ?_
    rintro e w2 ⟨rfl, hb2⟩
    replace hb1 := bt hb1 hb2
    clear hb2
    go_wp2_with fail
    refine (writes_c op _).mono ?_
    rintro e w2 ⟨rfl, hb2⟩
    replace hb1 := bt hb1 hb2
    clear hb2
    go_wp2_with fail
    refine (energy_c op _).mono ?_
    rintro e w2 ⟨rfl, hb2⟩
    replace hb1 := bt hb1 hb2
    clear hb2
    go_wp2_with fail
    refine (energy_c op _).mono ?_
    rintro e w2 ⟨rfl, hb2⟩
    replace hb1 := bt hb1 hb2
    clear hb2
    rw [HZ.out]
    go_wp2_with fail
    go_ret
    exact ⟨rfl, hb1⟩
end Go.Proofs.YtpgjmegecfaijaaDoor
