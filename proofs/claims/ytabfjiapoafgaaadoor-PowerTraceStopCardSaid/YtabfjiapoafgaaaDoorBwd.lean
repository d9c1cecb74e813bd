/-
  slices.Backward's iterator, whatever the loop's body.
-/
import Derived.Test.YtabfjiapoafgaaaDoorRng
import Derived.Test.YtabfjiapoafgaaaDoorVal
import Derived.Shelf.Abstract
import Derived.Shelf.RegionOpen
import Derived.OwnWalkIn
import Derived.TacticsInMore
import Derived.LoopNIn
import Derived.LoopIn
import Derived.RegionIn
import Derived.RangeFuncBox
namespace Go.Proofs.YtabfjiapoafgaaaDoor
open Go.RowKit Go.Shelf
set_option linter.unusedVariables false
attribute [local go_sem] Oper.semAt_some

set_option maxRecDepth 100000 in
set_option maxHeartbeats 2000000 in
theorem iter98 {n : Nat} (hn : 1 ≤ n) (L SB X len cap : Nat) (hl : len ≤ 100000) (J : Nat → World → Prop) (Lv : World → Prop)
    (hE : ∀ j W, J j W → W.cell? ⟨SB, 0, none⟩ = some (.slice (some ⟨X, 0, none⟩) len cap))
    (hC : ∀ j W, J (j + 1) W → j < len → ∃ e o : Int, W.cell? ⟨X, j * 2, none⟩ = some (.int .i64 e) ∧ W.cell? ⟨X, j * 2 + 1, none⟩ = some (.int .i64 o) ∧
      YieldAt Fence.wide (n - 1) Tryd.prog L #[.int .i64 (j : Int), .agg #[.int .i64 e, .int .i64 o]] W fun r W' => (r = .returned (.bool true) ∧ J j W') ∨ (r = .returned (.bool false) ∧ Lv W'))
    (W : World) (h0 : J len W) :
    CallsIn Fence.wide n Tryd.prog 98 #[.func (.yield L) #[] #[], .pointer (some ⟨SB, 0, none⟩)] W fun e W' => (∃ v, e = .returned v) ∧ (J 0 W' ∨ Lv W') := by
  have hlI : (len : Int) ≤ 100000 := by omega
  refine callsIn_of_wp Tryd.func98 rfl trivial ?_ rfl
  simp only [Tryd.ntmps98, List.size_toArray, List.length_cons, List.length_nil, Nat.reduceAdd, Nat.reduceSub, Array.replicate_succ, Array.replicate_zero, List.push_toArray, List.append_toArray, List.nil_append, List.cons_append]
  have c0 := hE _ _ h0
  have H0 := Lib.hid h0
  have HE := Lib.hid hE
  have HC := Lib.hid hC
  clear h0 hE hC
  gi_wp2
  gi_loopw [3] (fun i wr => ∃ j : Nat, j ≤ len ∧ i = .int .i64 ((j : Int) - 1) ∧ J j wr) (fun i _ => (intOf i + 1).toNat)
  case atStart => exact ⟨len, by omega, rfl, H0.out⟩
  case round =>
    obtain ⟨j, hj, rfl, hJ⟩ := hrel
    have s0 := HE.out _ _ hJ
    cases j with
    | zero =>
      have HJ := Lib.hid hJ
      clear hJ
      gi_wp2
      go_end0
      exact ⟨⟨_, rfl⟩, .inl HJ.out⟩
    | succ j =>
      obtain ⟨e, o, e0, e1, hy⟩ := HC.out j wr hJ (by omega)
      obtain ⟨fn, tmps, assign, body, hy, hR⟩ := hy
      have hj1 : ((j + 1 : Nat) : Int) - 1 = (j : Int) := by omega
      have hj2 : (0 : Int) ≤ (j : Int) := by omega
      have hj3 : (j : Int) < (len : Int) := by omega
      rw [hj1]
      clear hJ hj1
      gi_wp2
      refine hR.mono ?_
      rintro r W3 (⟨rfl, hJ3⟩ | ⟨rfl, hx3⟩)
      · have HJ3 := Lib.hid hJ3
        clear hJ3 hR hy
        gi_wp2
        go_roundw
        case rel => exact ⟨j, by omega, by go_num, HJ3.out⟩
        case measure => simp [intOf]
      · gi_wp2
        refine bodyPost_ret (results_none rfl _ _ _) rfl ?_
        exact ⟨⟨_, rfl⟩, .inr hx3⟩
theorem back_c (X len cap : Nat) (w : World) : Calls Tryd.prog 78 #[.slice (some ⟨X, 0, none⟩) len cap] w fun e w' => e = .returned (.func (.func 98) #[] #[.pointer (some ⟨w.heap.size, 0, none⟩)]) ∧ w' = w.alloc (.cells #[.slice (some ⟨X, 0, none⟩) len cap] 22) := by
  go_enter Tryd.func78, Tryd.ntmps78
  go_wp2_with fail
  go_ret
  exact ⟨rfl, rfl⟩
end Go.Proofs.YtabfjiapoafgaaaDoor
