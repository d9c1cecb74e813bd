/-
  The small functions of isa: get, set, immediate.
-/
import Derived.Test.YtpgjmegecfaijaaDoorTab
import Derived.Laws.StructEq
import Derived.Deep.Light
import Derived.RegionTactic
import Derived.Deep.QuietTactic
import Derived.BigQuiet
import Derived.Laws.Tables
import Derived.KernelRfl
namespace Go.Proofs.YtpgjmegecfaijaaDoor
open Go.RowKit

abbrev code (op a b c m : Int) : Value := .agg #[.int .i64 op, .int .i64 a, .int .i64 b, .int .i64 c, .int .i16 m]
def fieldOf (a b c m : Int) (o : Int) : Int := if o = 0 then a else if o = 1 then b else if o = 2 then c else m

theorem get_c (op a b c m o : Int) (hm : -32768 ≤ m ∧ m ≤ 32767) (ho : o = 0 ∨ o = 1 ∨ o = 2 ∨ o = 3) (w : World) : Calls Tryd.prog 36 #[code op a b c m, .int .i64 o] w fun e w' => e = .returned (.int .i64 (fieldOf a b c m o)) ∧ Below w.heap.size w w' := by
  go_enter Tryd.func36, Tryd.ntmps36
  rcases ho with rfl | rfl | rfl | rfl
  all_goals
    go_wp2_with fail
    go_ret
    refine ⟨rfl, ?_⟩
    repeat' first | exact Below.refl _ _ | refine Below.alloc ?_ ?_ _ | (simp; done) | (simp; omega)

def immOk (op m : Int) : Bool :=
  if op = 14 ∨ op = 15 ∨ op = 27 then decide (0 ≤ m ∧ m < 16383 ∧ m % 2 = 0)
  else if op = 18 then decide (0 ≤ m ∧ m < 32)
  else if op = 19 ∨ op = 20 then decide (0 ≤ m ∧ m < 64)
  else if op = 21 ∨ op = 22 then decide (0 ≤ m ∧ m < 480)
  else if op = 23 then decide (0 ≤ m ∧ m < 8)
  else if op = 24 then decide (0 ≤ m ∧ m < 8)
  else if op = 26 then decide (0 ≤ m ∧ m < 8)
  else if op = 29 then decide (0 ≤ m ∧ m < 120)
  else true
theorem below_c (m lim : Int) (b : Nat) (w : World) (h : w.cell? ⟨b, 0, none⟩ = some (.int .i64 m)) : Calls Tryd.prog 62 #[.int .i64 lim, .pointer (some ⟨b, 0, none⟩)] w fun e w' => e = .returned (.bool (decide (0 ≤ m ∧ m < lim))) ∧ Below w.heap.size w w' := by
  go_enter Tryd.func62, Tryd.ntmps62
  go_wp2_with fail
  · go_ret
    exact ⟨ret_bool (by rw [decide_eq_decide]; omega), Below.refl _ _⟩
  · go_ret
    exact ⟨ret_bool (by simp; omega), Below.refl _ _⟩
set_option maxHeartbeats 4000000 in
theorem imm_c (op m : Int) (hm : -32768 ≤ m ∧ m ≤ 32767) (w : World) : Calls Tryd.prog 37 #[.int .i64 op, .int .i16 m] w fun e w' => e = .returned (.bool (immOk op m)) ∧ Below w.heap.size w w' := by
  go_enter Tryd.func37, Tryd.ntmps37
  go_wp2_with fail
  all_goals try (refine (below_c m _ _ _ (by go_simp)).mono ?_; rintro e w1 ⟨rfl, hb1⟩; have hc1 := (bcell hb1).1 w.heap.size 0 (by simp); rw [World.cell?_alloc_at _ _ _ _ rfl] at hc1; simp at hc1)
  all_goals go_wp2_with fail
  all_goals go_ret
  all_goals refine ⟨ret_bool ?_, by first | exact bt (ba w _) hb1 | exact ba w _⟩
  all_goals go_light
  all_goals simp only [beq_iff_eq, beq_eq_false_iff_ne, ne_eq] at *
  all_goals (unfold immOk; simp [*]; try (first | omega | rfl))

theorem osl_slice (n : Nat) : ∀ i, ∃ (a : Option Addr) (l c : Nat), osl n i = .slice a l c := by
  intro i
  unfold osl
  split <;> exact ⟨_, _, _, rfl⟩
theorem describe_in (op : Int) (h0 : 1 ≤ op) (h1 : op ≤ 30) (w : World) : Calls Tryd.prog 35 #[.int .i64 op] w fun e w' => ∃ n, e = .returned (.tuple #[.agg #[.string (nam op.toNat), osl n op.toNat], .bool true]) ∧ w.heap.size ≤ n ∧ OpTab n w' ∧ Below w.heap.size w w' := by
  go_enter Tryd.func35, Tryd.ntmps35
  go_wp2_with fail
  refine (ops_c _).mono ?_
  rintro e w1 ⟨rfl, T, hb1⟩
  have T' := T
  simp only [World.size_alloc] at T'
  have hA := T.at op.toNat (by omega)
  obtain ⟨hS, hO⟩ := hA
  have hc0 : w1.cell? ⟨w.heap.size, 0, none⟩ = _ := ((bcell hb1).1 w.heap.size 0 (by simp)).trans (World.cell?_alloc_at _ _ _ _ rfl)
  have hc1 : w1.cell? ⟨w.heap.size, 1, none⟩ = _ := ((bcell hb1).1 w.heap.size 1 (by simp)).trans (World.cell?_alloc_at _ _ _ _ rfl)
  have hf0 : w1.frozen? ⟨w.heap.size, 0, none⟩ = _ := ((bcell hb1).2 w.heap.size 0 (by simp)).trans (World.frozen?_alloc_at _ _ _ _ rfl)
  have hf1 : w1.frozen? ⟨w.heap.size, 1, none⟩ = _ := ((bcell hb1).2 w.heap.size 1 (by simp)).trans (World.frozen?_alloc_at _ _ _ _ rfl)
  simp at hc0 hc1
  simp only [World.size_alloc] at hS hO
  obtain ⟨sa, sl, sc, hsl⟩ := osl_slice (w.heap.size + 1) op.toNat
  rw [hsl] at hO
  go_wp2_with fail
  refine bodyPost_ret (v := .tuple #[.agg #[.string (nam op.toNat), .slice sa sl sc], .bool true]) (by simp [results, Tryd.results35, go_sem, *]) rfl ⟨w.heap.size + 1, by rw [hsl], by omega, ?_, ?_⟩
  · exact (T'.set _ _ _ (by omega)).set _ _ _ (by omega)
  · have k1 : Below w.heap.size w w1 := bt (ba w _) hb1
    repeat' first | exact k1 | refine Below.setCell ?_ ?_ _ | (simp; done)
theorem describe_out (op : Int) (h : op < 1 ∨ 30 < op) (w : World) : Calls Tryd.prog 35 #[.int .i64 op] w fun e w' => e = .returned (.tuple #[.agg #[.string ⟨#[]⟩, .slice none 0 0], .bool false]) ∧ Below w.heap.size w w' := by
  go_enter Tryd.func35, Tryd.ntmps35
  go_wp2_with fail
  refine (ops_c _).mono ?_
  rintro e w1 ⟨rfl, T, hb1⟩
  have hc0 : w1.cell? ⟨w.heap.size, 0, none⟩ = _ := ((bcell hb1).1 w.heap.size 0 (by simp)).trans (World.cell?_alloc_at _ _ _ _ rfl)
  have hc1 : w1.cell? ⟨w.heap.size, 1, none⟩ = _ := ((bcell hb1).1 w.heap.size 1 (by simp)).trans (World.cell?_alloc_at _ _ _ _ rfl)
  have hf0 : w1.frozen? ⟨w.heap.size, 0, none⟩ = _ := ((bcell hb1).2 w.heap.size 0 (by simp)).trans (World.frozen?_alloc_at _ _ _ _ rfl)
  have hf1 : w1.frozen? ⟨w.heap.size, 1, none⟩ = _ := ((bcell hb1).2 w.heap.size 1 (by simp)).trans (World.frozen?_alloc_at _ _ _ _ rfl)
  simp at hc0 hc1
  go_wp2_with fail
  all_goals
    refine bodyPost_ret (v := .tuple #[.agg #[.string ⟨#[]⟩, .slice none 0 0], .bool false]) (by simp [results, Tryd.results35, go_sem, *]) rfl ⟨rfl, ?_⟩
    have k1 : Below w.heap.size w w1 := bt (ba w _) hb1
    repeat' first | exact k1 | refine Below.setCell ?_ ?_ _ | (simp; done)
end Go.Proofs.YtpgjmegecfaijaaDoor
