/-
  Events: get, set, Valid.
-/
import Derived.Test.YtdfconiahfdhbaaDoorKnd
import Derived.RegionTactic
import Derived.Deep.QuietTactic
import Derived.BigQuiet
import Derived.Deep.RegionHeld3
import Derived.Deep.Light
import Derived.Deep.DrawnRows
import Derived.Outline
namespace Go.Proofs.YtdfconiahfdhbaaDoor
open Go.RowKit
attribute [local go_sem ↓] Go.wp_at_zero Go.wp_at_succ

structure Ev where
  kind : Int
  time : Int
  task : Int
  n : Int
  value : Int
  port : Int
def Ev.v (e : Ev) : Value := .agg #[.int .i64 e.kind, .int .i64 e.time, .int .i64 e.task, .int .i64 e.n, .int .i16 e.value, .int .i64 e.port]
def B64 (n : Int) : Prop := -9223372036854775808 ≤ n ∧ n ≤ 9223372036854775807
def B16 (n : Int) : Prop := -32768 ≤ n ∧ n ≤ 32767
structure InE (e : Ev) : Prop where
  kind : B64 e.kind
  time : B64 e.time
  task : B64 e.task
  n : B64 e.n
  value : B16 e.value
  port : B64 e.port
/-- an event in a block of its own -/
structure EX (X : Nat) (e : Ev) (W : World) : Prop where
  lt : X < W.heap.size
  c0 : W.cell? ⟨X, 0, none⟩ = some (.int .i64 e.kind)
  c1 : W.cell? ⟨X, 1, none⟩ = some (.int .i64 e.time)
  c2 : W.cell? ⟨X, 2, none⟩ = some (.int .i64 e.task)
  c3 : W.cell? ⟨X, 3, none⟩ = some (.int .i64 e.n)
  c4 : W.cell? ⟨X, 4, none⟩ = some (.int .i16 e.value)
  c5 : W.cell? ⟨X, 5, none⟩ = some (.int .i64 e.port)
  fr : ∀ i, W.frozen? ⟨X, i, none⟩ = false
def Ev.cells (e : Ev) : Array Value := #[.int .i64 e.kind, .int .i64 e.time, .int .i64 e.task, .int .i64 e.n, .int .i16 e.value, .int .i64 e.port]
theorem EX.new (w : World) (e : Ev) (t : TypeId) : EX w.heap.size e (w.alloc (.cells e.cells t)) :=
  ⟨by simp, (World.cell?_alloc_at _ _ _ _ rfl).trans rfl, (World.cell?_alloc_at _ _ _ _ rfl).trans rfl, (World.cell?_alloc_at _ _ _ _ rfl).trans rfl, (World.cell?_alloc_at _ _ _ _ rfl).trans rfl, (World.cell?_alloc_at _ _ _ _ rfl).trans rfl, (World.cell?_alloc_at _ _ _ _ rfl).trans rfl, fun i => World.frozen?_alloc_at _ _ _ _ rfl⟩
theorem EX.next {X : Nat} {e : Ev} {W W' : World} (h : EX X e W) (hb : Below W.heap.size W W') : EX X e W' := by
  obtain ⟨hc, hf⟩ := bcell hb
  have hs := h.lt
  exact ⟨Nat.lt_of_lt_of_le hs hb.size, (hc _ _ hs).trans h.c0, (hc _ _ hs).trans h.c1, (hc _ _ hs).trans h.c2, (hc _ _ hs).trans h.c3, (hc _ _ hs).trans h.c4, (hc _ _ hs).trans h.c5, fun i => (hf _ _ hs).trans (h.fr i)⟩
theorem EX.far {X : Nat} {e : Ev} {W : World} (h : EX X e W) {p : Addr} (hp : p.block ≠ X) (u : Value) : EX X e (W.setCell p u) := by
  have k : ∀ i, (W.setCell p u).cell? ⟨X, i, none⟩ = W.cell? ⟨X, i, none⟩ := fun i => World.cell?_setCell_other W p _ u (fun q => hp (by rw [q]))
  exact ⟨by simpa using h.lt, (k 0).trans h.c0, (k 1).trans h.c1, (k 2).trans h.c2, (k 3).trans h.c3, (k 4).trans h.c4, (k 5).trans h.c5, fun i => by simpa using h.fr i⟩
/-- a field's number -/
def getE (e : Ev) (f : Int) : Int := if f = 0 then e.task else if f = 1 then e.port else if f = 4 then e.value else e.n
theorem getE_b {e : Ev} (h : InE e) (f : Int) : B64 (getE e f) := by
  unfold getE
  split
  · exact h.task
  · split
    · exact h.port
    · split
      · have := h.value; exact ⟨by have := this.1; omega, by have := this.2; omega⟩
      · exact h.n
set_option maxRecDepth 100000 in
theorem get_c (e : Ev) (h : InE e) (f : Int) (w : World) : Calls Tryd.prog 27 #[e.v, .int .i64 f] w fun r w' => r = .returned (.int .i64 (getE e f)) ∧ Below w.heap.size w w' := by
  have K := EX.new w e 26
  have h1 : IntKind.i64.wrap e.task = e.task := IntWalk.i64_in _ (by have := h.task.1; have := h.task.2; omega)
  have h2 : IntKind.i64.wrap e.port = e.port := IntWalk.i64_in _ (by have := h.port.1; have := h.port.2; omega)
  have h3 : IntKind.i64.wrap e.value = e.value := IntWalk.i64_in _ (by have := h.value.1; have := h.value.2; omega)
  unfold Ev.v
  unfold Ev.cells at K
  obtain ⟨ek, et, ea, en, ev, ep⟩ := e
  by_cases f0 : f = 0
  · subst f0
    go_enter Tryd.func27, Tryd.ntmps27
    go_wp2_with fail
    go_ret
    exact ⟨ret_int (by simp [getE]), ba w _⟩
  · by_cases f1 : f = 1
    · subst f1
      go_enter Tryd.func27, Tryd.ntmps27
      go_wp2_with fail
      go_ret
      exact ⟨ret_int (by simp [getE]), ba w _⟩
    · by_cases f4 : f = 4
      · subst f4
        go_enter Tryd.func27, Tryd.ntmps27
        go_wp2_with fail
        go_ret
        exact ⟨ret_int (by simp [getE]), ba w _⟩
      · have HG := Lib.hid (show getE ⟨ek, et, ea, en, ev, ep⟩ f = en from by unfold getE; rw [if_neg f0, if_neg f1, if_neg f4])
        have g0 : (f == 0) = false := by simpa using f0
        have g1 : (f == 1) = false := by simpa using f1
        have g4 : (f == 4) = false := by simpa using f4
        clear f0 f1 f4
        go_enter Tryd.func27, Tryd.ntmps27
        go_wp2_with fail
        go_ret
        exact ⟨ret_int HG.out.symm, ba w _⟩
/-- an event with a field set -/
def setE (e : Ev) (f n : Int) : Ev :=
  if f = 0 then { e with task := n } else if f = 1 then { e with port := n } else if f = 4 then { e with value := IntKind.i16.wrap n } else { e with n := n }
/-- the greatest and the least number of a field -/
def okF (f n : Int) : Bool := if f = 0 ∨ f = 1 then decide (0 ≤ n ∧ n ≤ 7) else if f = 4 then decide (-32768 ≤ n ∧ n ≤ 32767) else if f = 3 then decide (0 ≤ n ∧ n ≤ 119) else decide (0 ≤ n ∧ n ≤ 1099511627776)
/-- the world behind a store into a field -/
def setW (w : World) (X : Nat) (f n : Int) : World :=
  if f = 0 then w.setCell ⟨X, 2, none⟩ (.int .i64 n) else if f = 1 then w.setCell ⟨X, 5, none⟩ (.int .i64 n) else if f = 4 then w.setCell ⟨X, 4, none⟩ (.int .i16 (IntKind.i16.wrap n)) else w.setCell ⟨X, 3, none⟩ (.int .i64 n)
theorem EX.set_ {X : Nat} {e : Ev} {w : World} (h : EX X e w) (f n : Int) : EX X (setE e f n) (setW w X f n) := by
  obtain ⟨hl, c0, c1, c2, c3, c4, c5, fr⟩ := h
  unfold setE setW
  split
  · refine ⟨by simpa using hl, ?_, ?_, ?_, ?_, ?_, ?_, fun i => by simpa using fr i⟩ <;> go_simp
  · split
    · refine ⟨by simpa using hl, ?_, ?_, ?_, ?_, ?_, ?_, fun i => by simpa using fr i⟩ <;> go_simp
    · split
      · refine ⟨by simpa using hl, ?_, ?_, ?_, ?_, ?_, ?_, fun i => by simpa using fr i⟩ <;> go_simp
      · refine ⟨by simpa using hl, ?_, ?_, ?_, ?_, ?_, ?_, fun i => by simpa using fr i⟩ <;> go_simp
theorem EX.setFar {X Y : Nat} {e : Ev} {w : World} (h : EX X e w) (hne : Y ≠ X) (f n : Int) : EX X e (setW w Y f n) := by
  unfold setW
  split
  · exact h.far hne _
  · split
    · exact h.far hne _
    · split
      · exact h.far hne _
      · exact h.far hne _
theorem setW_below {B X : Nat} {w0 w : World} (h : Below B w0 w) (hX : B ≤ X) (f n : Int) : Below B w0 (setW w X f n) := by
  unfold setW
  split
  · exact h.setCell hX _
  · split
    · exact h.setCell hX _
    · split
      · exact h.setCell hX _
      · exact h.setCell hX _
theorem setW_size (w : World) (X : Nat) (f n : Int) : (setW w X f n).heap.size = w.heap.size := by
  unfold setW
  split
  · simp
  · split
    · simp
    · split <;> simp
def isF (f : Int) : Prop := f = 0 ∨ f = 1 ∨ f = 2 ∨ f = 3 ∨ f = 4
set_option maxRecDepth 100000 in
theorem set_c (X : Nat) (e : Ev) (f n : Int) (hf : isF f) (hn : B64 n) (w : World) (K : EX X e w) : Calls Tryd.prog 26 #[.pointer (some ⟨X, 0, none⟩), .int .i64 f, .int .i64 n] w fun r w' => r = .returned (.bool (okF f n)) ∧ w' = setW w X f n := by
  obtain ⟨hl, c0, c1, c2, c3, c4, c5, fr⟩ := K
  have h1 : IntKind.i64.wrap n = n := IntWalk.i64_in _ (by have := hn.1; have := hn.2; omega)
  have f2 := fr 2
  have f3 := fr 3
  have f4 := fr 4
  have f5 := fr 5
  clear fr
  rcases hf with rfl | rfl | rfl | rfl | rfl
  all_goals
    go_enter Tryd.func26, Tryd.ntmps26
    go_wp2_with fail
    all_goals go_ret
    all_goals exact ⟨ret_bool (by simp [okF]; try omega), by simp [setW]⟩
end Go.Proofs.YtdfconiahfdhbaaDoor
