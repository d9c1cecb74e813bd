/-
  The walks of SensorNew, SensorAt and SensorMerge.
-/
import Derived.Test.YtgdaekjodhebfaaDoorExm
import Derived.Test.YtgdaekjodhebfaaDoorMade
import Derived.Test.YtgdaekjodhebfaaDoorMrg
import Derived.Deep.DrawnRows
namespace Go.Proofs.YtgdaekjodhebfaaDoor
open Go.RowKit
attribute [local go_sem ↓] Go.wp_at_zero Go.wp_at_succ

/-- what a law answers -/
def Yes (w : World) (e : Ending) (w' : World) : Prop := e = .returned (.bool true) ∧ Below w.heap.size w w'
theorem MadeP.no {l : List (Int × Int)} {w w' : World} {e : Ending} (h : MadeP l w e w') (hc : ¬ (l.length ≤ 60 ∧ validL l = true)) : e = .returned (.tuple #[.pointer none, .bool true]) ∧ Below w.heap.size w w' := by
  unfold MadeP at h
  rw [if_neg hc] at h
  exact h
theorem MadeP.yes {l : List (Int × Int)} {w w' : World} {e : Ending} (h : MadeP l w e w') (hc : l.length ≤ 60 ∧ validL l = true) : ∃ tp, e = .returned (.tuple #[.pointer (some ⟨tp, 0, none⟩), .bool true]) ∧ Trc w' tp l ∧ Below w.heap.size w w' := by
  unfold MadeP at h
  rw [if_pos hc] at h
  obtain ⟨⟨tp, he, -, T⟩, hb⟩ := h
  exact ⟨tp, he, T, hb⟩
/-- a change in a block of its own -/
structure CX (X : Nat) (t v : Int) (W : World) : Prop where
  lt : X < W.heap.size
  x0 : W.cell? ⟨X, 0, none⟩ = some (.int .i64 t)
  x1 : W.cell? ⟨X, 1, none⟩ = some (.int .i16 v)
theorem CX.new (w : World) (t v : Int) (e : TypeId) : CX w.heap.size t v (w.alloc (.cells #[.int .i64 t, .int .i16 v] e)) := ⟨by simp, (new_change w t v e).1, (new_change w t v e).2⟩
theorem CX.next {X : Nat} {t v : Int} {W W' : World} (h : CX X t v W) (hb : Below W.heap.size W W') : CX X t v W' := ⟨Nat.lt_of_lt_of_le h.lt hb.size, ((bcell hb).1 X 0 h.lt).trans h.x0, ((bcell hb).1 X 1 h.lt).trans h.x1⟩
theorem optV_is (o : Option (Int × Int)) : ∃ a b f, optV o = .tuple #[.agg #[.int .i64 a, .int .i16 b], .bool f] := by
  cases o with
  | none => exact ⟨_, _, _, rfl⟩
  | some x => exact ⟨_, _, _, rfl⟩

set_option maxRecDepth 100000 in
set_option maxHeartbeats 1000000 in
theorem sensorNew_w (l : List (Int × Int)) (hlm : (l.length : Int) ≤ 9223372036854775807) (A : Option Addr) (cap : Nat) (w : World) (hr : Ready w) (C : Chs w A l) : Calls Tryd.prog 6 #[.slice A l.length cap] w (Yes w) := by
  have HC := Lib.hid C
  clear C
  go_enter Tryd.func6, Tryd.ntmps6
  go_wp2_with fail
  refine (made_c l hlm A cap _ HC.out).mono ?_
  intro e w1 h1
  by_cases hc : l.length ≤ 60 ∧ validL l = true
  · obtain ⟨tp, rfl, T, hb1⟩ := h1.yes hc
    have hl : l.length ≤ 1000 := by omega
    clear h1
    have C1 := HC.out.next hb1
    go_wp2_with fail
    refine (tchanges_c l hl tp _ T).mono ?_
    rintro e w2 ⟨A2, cap2, rfl, C2, hb2⟩
    have k2 := bt hb1 hb2
    replace C1 := C1.next hb2
    clear hb1 hb2 T
    go_wp2_with fail
    refine (changes_c l hl A2 cap2 _ C2).mono ?_
    rintro e w3 ⟨A3, cap3, rfl, C3, hb3⟩
    replace k2 := bt k2 hb3
    replace C1 := C1.next hb3
    clear hb3 C2
    go_wp2_with fail
    refine (changes_c l hl A cap _ C1).mono ?_
    rintro e w4 ⟨A4, cap4, rfl, C4, hb4⟩
    replace k2 := bt k2 hb4
    replace C3 := C3.next hb4
    clear hb4 C1
    go_wp2_with fail
    refine (same_c l hl A3 A4 cap3 cap4 _ C3 C4).mono ?_
    rintro e w5 ⟨rfl, hb5⟩
    replace k2 := bt k2 hb5
    clear hb5 C3 C4
    go_wp2_with fail
    refine (examples_c _ (hr.below k2)).mono ?_
    rintro e w6 ⟨rfl, hb6⟩
    replace k2 := bt k2 hb6
    go_wp2_with fail
    go_ret
    exact ⟨rfl, k2⟩
  · obtain ⟨rfl, hb1⟩ := h1.no hc
    clear h1 hc
    go_wp2_with fail
    refine (examples_c _ (hr.below hb1)).mono ?_
    rintro e w6 ⟨rfl, hb6⟩
    have k2 := bt hb1 hb6
    go_wp2_with fail
    go_ret
    exact ⟨rfl, k2⟩
set_option maxRecDepth 100000 in
set_option maxHeartbeats 1000000 in
theorem sensorAt_w (l : List (Int × Int)) (hlm : (l.length : Int) ≤ 9223372036854775807) (time : Int) (A : Option Addr) (cap : Nat) (w : World) (hr : Ready w) (C : Chs w A l) : Calls Tryd.prog 3 #[.slice A l.length cap, .int .i64 time] w (Yes w) := by
  have HC := Lib.hid C
  clear C
  go_enter Tryd.func3, Tryd.ntmps3
  go_wp2_with fail
  refine (made_c l hlm A cap _ HC.out).mono ?_
  intro e w1 h1
  by_cases hc : l.length ≤ 60 ∧ validL l = true
  · obtain ⟨tp, rfl, T, hb1⟩ := h1.yes hc
    have hl : l.length ≤ 1000 := by omega
    have HV := Lib.hid hc.2
    clear h1 hc
    have C1 := HC.out.next hb1
    obtain ⟨a, b, f, ho⟩ := optV_is (nextL l time)
    have HO := Lib.hid ho
    clear ho
    go_wp2_with fail
    refine (next_c l hl HV.out time tp _ T).mono ?_
    rintro e w2 ⟨rfl, hb2⟩
    rw [HO.out]
    have k2 := bt hb1 hb2
    replace C1 := C1.next hb2
    replace T := T.next hb2
    clear hb1 hb2
    go_wp2_with fail
    have hb3 := ba w2 (.cells #[.int .i64 a, .int .i16 b] 29)
    have X := CX.new w2 a b 29
    replace k2 := bt k2 hb3
    replace C1 := C1.next hb3
    replace T := T.next hb3
    clear hb3
    generalize w2.alloc (.cells #[.int .i64 a, .int .i16 b] 29) = W2 at *
    generalize w2.heap.size = XB at *
    refine (changes_c l hl A cap _ C1).mono ?_
    rintro e w3 ⟨A3, cap3, rfl, C3, hb3⟩
    replace k2 := bt k2 hb3
    replace C1 := C1.next hb3
    replace T := T.next hb3
    replace X := X.next hb3
    clear hb3
    go_wp2_with fail
    refine (rnext_c l hl time A3 cap3 _ C3).mono ?_
    rintro e w4 ⟨rfl, hb4⟩
    rw [HO.out]
    replace k2 := bt k2 hb4
    replace C1 := C1.next hb4
    replace T := T.next hb4
    replace X := X.next hb4
    clear hb4 C3
    have HX := Lib.hid X
    clear X
    go_wp2_with fail
    have X := HX.out
    have hb5 := ba w4 (.cells #[.int .i64 a, .int .i16 b] 32)
    have Y := CX.new w4 a b 32
    replace k2 := bt k2 hb5
    replace C1 := C1.next hb5
    replace T := T.next hb5
    replace X := X.next hb5
    clear hb5 HX
    generalize w4.alloc (.cells #[.int .i64 a, .int .i16 b] 32) = W4 at *
    generalize w4.heap.size = YB at *
    refine (at_c l hl HV.out time tp _ T).mono ?_
    rintro e w5 ⟨rfl, hb5⟩
    replace k2 := bt k2 hb5
    replace C1 := C1.next hb5
    replace X := X.next hb5
    replace Y := Y.next hb5
    clear hb5 T
    have HX := Lib.hid X
    have HY := Lib.hid Y
    clear X Y
    go_wp2_with fail
    refine (changes_c l hl A cap _ C1).mono ?_
    rintro e w6 ⟨A6, cap6, rfl, C6, hb6⟩
    replace k2 := bt k2 hb6
    have X := HX.out.next hb6
    have Y := HY.out.next hb6
    clear hb6 C1 HX HY
    have HX := Lib.hid X
    have HY := Lib.hid Y
    clear X Y
    go_wp2_with fail
    refine (rat_c l hl time A6 cap6 _ C6).mono ?_
    rintro e w7 ⟨rfl, hb7⟩
    replace k2 := bt k2 hb7
    have X := HX.out.next hb7
    have Y := HY.out.next hb7
    obtain ⟨-, x0, x1⟩ := X
    obtain ⟨-, y0, y1⟩ := Y
    clear hb7 C6 HX HY
    generalize atL l time = z at *
    go_wp2_with fail
    refine (examples_c _ (hr.below k2)).mono ?_
    rintro e w8 ⟨rfl, hb8⟩
    replace k2 := bt k2 hb8
    go_wp2_with fail
    go_ret
    exact ⟨rfl, k2⟩
  · obtain ⟨rfl, hb1⟩ := h1.no hc
    clear h1 hc
    go_wp2_with fail
    refine (examples_c _ (hr.below hb1)).mono ?_
    rintro e w6 ⟨rfl, hb6⟩
    have k2 := bt hb1 hb6
    go_wp2_with fail
    go_ret
    exact ⟨rfl, k2⟩
end Go.Proofs.YtgdaekjodhebfaaDoor
