/-
  The walks of IntervalAdd, IntervalSub and IntervalSets.
-/
import Derived.Test.YtmihogccpgdpaaaDoorExamples
namespace Go.Proofs.YtmihogccpgdpaaaDoor
open Go.RowKit

theorem Two.at (B : Nat) (W : World) (x y : Int) (h : W.heap.size = B) : Two B x y (W.alloc (.cells #[.int .i64 x, .int .i64 y] 23)) := by
  subst h; exact Two.new W x y
/-- what a walk holds of the world at its last region: boxes of intervals, the laid variables -/
structure K3 (w : World) (A X Y : Nat) (a b p q r s : Int) (W : World) : Prop where
  ready : Ready W
  below : Below w.heap.size w W
  a : Two A a b W
  x : Two X p q W
  y : Two Y r s W
theorem K3.next {w W W' : World} {A X Y : Nat} {a b p q r s : Int} (h : K3 w A X Y a b p q r s W) (hb : Below W.heap.size W W') : K3 w A X Y a b p q r s W' :=
  ⟨h.ready.below hb, h.below.trans (hb.mono h.below.size), h.a.next hb, h.x.next hb, h.y.next hb⟩

set_option maxRecDepth 100000 in
set_option maxHeartbeats 8000000 in
theorem add_y (a b c d : Int) (t : Int) (h : vld a b = true ∧ vld c d = true) (w : World) (hr : Ready w) :
    Calls Tryd.prog 3 #[iv a b, iv c d, .int .i64 t] w fun e w' => e = .returned (.bool true) ∧ Below w.heap.size w w' := by
  have HV := Lib.hid h
  clear h
  have kb0 := Below.refl w.heap.size w
  go_enter Tryd.func3, Tryd.ntmps3
  go_wp2_with fail
  have hb1 := ba w (.cells #[.int .i64 a, .int .i64 b] 23)
  have kb1 := kb0.trans (hb1.mono kb0.size)
  have hr1 := hr.below hb1
  clear hb1 kb0
  have a_1 := Two.at (w.heap.size) w a b (by simp)
  obtain ⟨al, ap, aq⟩ := id a_1
  have hb2 := ba (w.alloc (.cells #[.int .i64 a, .int .i64 b] 23)) (.cells #[.int .i64 c, .int .i64 d] 23)
  have kb2 := kb1.trans (hb2.mono kb1.size)
  have hr2 := hr1.below hb2
  have a_2 := a_1.next hb2
  clear hb2 kb1 hr1 a_1
  have c_2 := Two.at (w.heap.size + 1) (w.alloc (.cells #[.int .i64 a, .int .i64 b] 23)) c d (by simp)
  clear al ap aq
  obtain ⟨al, ap, aq⟩ := id a_2
  obtain ⟨cl, cp, cq⟩ := id c_2
  go_wp2_with fail
  refine (add_c a b c d _ HV.out.1 HV.out.2).mono ?_
  rintro e w3 ⟨rfl, hb3⟩
  have kb3 := kb2.trans (hb3.mono kb2.size)
  have hr3 := hr2.below hb3
  have a_3 := a_2.next hb3
  have c_3 := c_2.next hb3
  clear hb3 kb2 hr2 a_2 c_2
  clear al ap aq cl cp cq
  obtain ⟨al, ap, aq⟩ := id a_3
  obtain ⟨cl, cp, cq⟩ := id c_3
  have hb4 := ba w3 (.cells #[.int .i64 (clamp (a + c)), .int .i64 (clamp (b + d))] 23)
  have kb4 := kb3.trans (hb4.mono kb3.size)
  have hr4 := hr3.below hb4
  have a_4 := a_3.next hb4
  have c_4 := c_3.next hb4
  clear hb4 kb3 hr3 a_3 c_3
  have x_4 := Two.at (w3.heap.size) w3 (clamp (a + c)) (clamp (b + d)) (by simp)
  clear al ap aq cl cp cq
  obtain ⟨al, ap, aq⟩ := id a_4
  obtain ⟨cl, cp, cq⟩ := id c_4
  obtain ⟨xl, xp, xq⟩ := id x_4
  go_wp2_with fail
  refine (radd_c a b c d _ HV.out.1 HV.out.2).mono ?_
  rintro e w5 ⟨rfl, hb5⟩
  have kb5 := kb4.trans (hb5.mono kb4.size)
  have hr5 := hr4.below hb5
  have a_5 := a_4.next hb5
  have c_5 := c_4.next hb5
  have x_5 := x_4.next hb5
  clear hb5 kb4 hr4 a_4 c_4 x_4
  clear al ap aq cl cp cq xl xp xq
  obtain ⟨al, ap, aq⟩ := id a_5
  obtain ⟨cl, cp, cq⟩ := id c_5
  obtain ⟨xl, xp, xq⟩ := id x_5
  have hb6 := ba w5 (.cells #[.int .i64 (clamp (a + c)), .int .i64 (clamp (b + d))] 23)
  have kb6 := kb5.trans (hb6.mono kb5.size)
  have hr6 := hr5.below hb6
  have a_6 := a_5.next hb6
  have c_6 := c_5.next hb6
  have x_6 := x_5.next hb6
  clear hb6 kb5 hr5 a_5 c_5 x_5
  have y_6 := Two.at (w5.heap.size) w5 (clamp (a + c)) (clamp (b + d)) (by simp)
  clear al ap aq cl cp cq xl xp xq
  obtain ⟨al, ap, aq⟩ := id a_6
  obtain ⟨cl, cp, cq⟩ := id c_6
  obtain ⟨xl, xp, xq⟩ := id x_6
  obtain ⟨yl, yp, yq⟩ := id y_6
  go_wp2_with fail
  refine (clamp_c t _).mono ?_
  rintro e wq ⟨rfl, rfl⟩
  go_wp2_with fail
  have K : K3 w (w.heap.size) (w3.heap.size) (w5.heap.size) a b (clamp (a + c)) (clamp (b + d)) (clamp (a + c)) (clamp (b + d)) (w5.alloc (.cells #[.int .i64 (clamp (a + c)), .int .i64 (clamp (b + d))] 23)) := ⟨hr6, kb6, a_6, x_6, y_6⟩
  clear al ap aq cl cp cq xl xp xq yl yp yq a_6 c_6 x_6 y_6 hr6 kb6 hr
  generalize w.heap.size = A at *
  generalize w3.heap.size = X at *
  generalize w5.heap.size = Y at *
  generalize (w5.alloc (.cells #[.int .i64 (clamp (a + c)), .int .i64 (clamp (b + d))] 23)) = W at *
  generalize (clamp (a + c)) = P at *
  generalize (clamp (b + d)) = Q at *
  replace K := K.next W.drewB
  go_region_held3 (fun w' => w'.cell? ⟨A, 0, none⟩ = some (.int .i64 a) ∧ w'.cell? ⟨A, 1, none⟩ = some (.int .i64 b) ∧ w'.cell? ⟨X, 0, none⟩ = some (.int .i64 P) ∧ w'.cell? ⟨X, 1, none⟩ = some (.int .i64 Q) ∧ w'.cell? ⟨Y, 0, none⟩ = some (.int .i64 P) ∧ w'.cell? ⟨Y, 1, none⟩ = some (.int .i64 Q) ∧ K3 w A X Y a b P Q P Q w') (first | exact ⟨K.a.p, K.a.q, K.x.p, K.x.q, K.y.p, K.y.q, K⟩ | go_keep)
    (first | (go_at_call 13; (with_reducible refine (examples_c _ K.ready).mono ?_); rintro e w1 ⟨rfl, hb1⟩; replace K := K.next hb1) | (go_at_call 14; (with_reducible refine (valid_c _ _ _).mono ?_); rintro e w1 ⟨rfl, hb1⟩; replace K := K.next hb1) | (go_at_call 15; (with_reducible refine (rvalid_c _ _ _).mono ?_); rintro e w1 ⟨rfl, hb1⟩; replace K := K.next hb1) | (go_at_call 16; (with_reducible refine (at_c _ _).mono ?_); rintro e w1 ⟨rfl, hb1⟩; replace K := K.next hb1) | (go_at_call 17; (with_reducible refine (of_c _ _ _).mono ?_); rintro e w1 ⟨rfl, hb1⟩; replace K := K.next hb1))
  go_wp2_with fail
  go_ret
  exact ⟨rfl, K.below⟩

set_option maxRecDepth 100000 in
set_option maxHeartbeats 8000000 in
theorem add_n (a b c d : Int) (t : Int) (h : ¬ (vld a b = true ∧ vld c d = true)) (w : World) (hr : Ready w) :
    Calls Tryd.prog 3 #[iv a b, iv c d, .int .i64 t] w fun e w' => e = .returned (.bool true) ∧ Below w.heap.size w w' := by
  have HV := Lib.hid h
  clear h
  have kb0 := Below.refl w.heap.size w
  go_enter Tryd.func3, Tryd.ntmps3
  go_wp2_with fail
  have hb1 := ba w (.cells #[.int .i64 a, .int .i64 b] 23)
  have kb1 := kb0.trans (hb1.mono kb0.size)
  have hr1 := hr.below hb1
  clear hb1 kb0
  have a_1 := Two.at (w.heap.size) w a b (by simp)
  obtain ⟨al, ap, aq⟩ := id a_1
  have hb2 := ba (w.alloc (.cells #[.int .i64 a, .int .i64 b] 23)) (.cells #[.int .i64 c, .int .i64 d] 23)
  have kb2 := kb1.trans (hb2.mono kb1.size)
  have hr2 := hr1.below hb2
  have a_2 := a_1.next hb2
  clear hb2 kb1 hr1 a_1
  have c_2 := Two.at (w.heap.size + 1) (w.alloc (.cells #[.int .i64 a, .int .i64 b] 23)) c d (by simp)
  clear al ap aq
  obtain ⟨al, ap, aq⟩ := id a_2
  obtain ⟨cl, cp, cq⟩ := id c_2
  go_wp2_with fail
  refine (add_no a b c d _ HV.out).mono ?_
  rintro e w3 ⟨rfl, hb3⟩
  have kb3 := kb2.trans (hb3.mono kb2.size)
  have hr3 := hr2.below hb3
  have a_3 := a_2.next hb3
  have c_3 := c_2.next hb3
  clear hb3 kb2 hr2 a_2 c_2
  clear al ap aq cl cp cq
  obtain ⟨al, ap, aq⟩ := id a_3
  obtain ⟨cl, cp, cq⟩ := id c_3
  have hb4 := ba w3 (.cells #[.int .i64 0, .int .i64 0] 23)
  have kb4 := kb3.trans (hb4.mono kb3.size)
  have hr4 := hr3.below hb4
  have a_4 := a_3.next hb4
  have c_4 := c_3.next hb4
  clear hb4 kb3 hr3 a_3 c_3
  have x_4 := Two.at (w3.heap.size) w3 0 0 (by simp)
  clear al ap aq cl cp cq
  obtain ⟨al, ap, aq⟩ := id a_4
  obtain ⟨cl, cp, cq⟩ := id c_4
  obtain ⟨xl, xp, xq⟩ := id x_4
  go_wp2_with fail
  refine (radd_no a b c d _ HV.out).mono ?_
  rintro e w5 ⟨rfl, hb5⟩
  have kb5 := kb4.trans (hb5.mono kb4.size)
  have hr5 := hr4.below hb5
  have a_5 := a_4.next hb5
  have c_5 := c_4.next hb5
  have x_5 := x_4.next hb5
  clear hb5 kb4 hr4 a_4 c_4 x_4
  clear al ap aq cl cp cq xl xp xq
  obtain ⟨al, ap, aq⟩ := id a_5
  obtain ⟨cl, cp, cq⟩ := id c_5
  obtain ⟨xl, xp, xq⟩ := id x_5
  have hb6 := ba w5 (.cells #[.int .i64 0, .int .i64 0] 23)
  have kb6 := kb5.trans (hb6.mono kb5.size)
  have hr6 := hr5.below hb6
  have a_6 := a_5.next hb6
  have c_6 := c_5.next hb6
  have x_6 := x_5.next hb6
  clear hb6 kb5 hr5 a_5 c_5 x_5
  have y_6 := Two.at (w5.heap.size) w5 0 0 (by simp)
  clear al ap aq cl cp cq xl xp xq
  obtain ⟨al, ap, aq⟩ := id a_6
  obtain ⟨cl, cp, cq⟩ := id c_6
  obtain ⟨xl, xp, xq⟩ := id x_6
  obtain ⟨yl, yp, yq⟩ := id y_6
  go_wp2_with fail
  refine (clamp_c t _).mono ?_
  rintro e wq ⟨rfl, rfl⟩
  go_wp2_with fail
  have K : K3 w (w.heap.size) (w3.heap.size) (w5.heap.size) a b 0 0 0 0 (w5.alloc (.cells #[.int .i64 0, .int .i64 0] 23)) := ⟨hr6, kb6, a_6, x_6, y_6⟩
  clear al ap aq cl cp cq xl xp xq yl yp yq a_6 c_6 x_6 y_6 hr6 kb6 hr
  generalize w.heap.size = A at *
  generalize w3.heap.size = X at *
  generalize w5.heap.size = Y at *
  generalize (w5.alloc (.cells #[.int .i64 0, .int .i64 0] 23)) = W at *
  replace K := K.next W.drewB
  go_region_held3 (fun w' => w'.cell? ⟨A, 0, none⟩ = some (.int .i64 a) ∧ w'.cell? ⟨A, 1, none⟩ = some (.int .i64 b) ∧ w'.cell? ⟨X, 0, none⟩ = some (.int .i64 0) ∧ w'.cell? ⟨X, 1, none⟩ = some (.int .i64 0) ∧ w'.cell? ⟨Y, 0, none⟩ = some (.int .i64 0) ∧ w'.cell? ⟨Y, 1, none⟩ = some (.int .i64 0) ∧ K3 w A X Y a b 0 0 0 0 w') (first | exact ⟨K.a.p, K.a.q, K.x.p, K.x.q, K.y.p, K.y.q, K⟩ | go_keep)
    (first | (go_at_call 13; (with_reducible refine (examples_c _ K.ready).mono ?_); rintro e w1 ⟨rfl, hb1⟩; replace K := K.next hb1) | (go_at_call 14; (with_reducible refine (valid_c _ _ _).mono ?_); rintro e w1 ⟨rfl, hb1⟩; replace K := K.next hb1) | (go_at_call 15; (with_reducible refine (rvalid_c _ _ _).mono ?_); rintro e w1 ⟨rfl, hb1⟩; replace K := K.next hb1) | (go_at_call 16; (with_reducible refine (at_c _ _).mono ?_); rintro e w1 ⟨rfl, hb1⟩; replace K := K.next hb1) | (go_at_call 17; (with_reducible refine (of_c _ _ _).mono ?_); rintro e w1 ⟨rfl, hb1⟩; replace K := K.next hb1))
  go_wp2_with fail
  go_ret
  exact ⟨rfl, K.below⟩

set_option maxRecDepth 100000 in
set_option maxHeartbeats 8000000 in
theorem sub_y (a b c d : Int) (h : vld a b = true ∧ vld c d = true) (w : World) (hr : Ready w) :
    Calls Tryd.prog 4 #[iv a b, iv c d] w fun e w' => e = .returned (.bool true) ∧ Below w.heap.size w w' := by
  have HV := Lib.hid h
  clear h
  have kb0 := Below.refl w.heap.size w
  go_enter Tryd.func4, Tryd.ntmps4
  go_wp2_with fail
  have hb1 := ba w (.cells #[.int .i64 a, .int .i64 b] 23)
  have kb1 := kb0.trans (hb1.mono kb0.size)
  have hr1 := hr.below hb1
  clear hb1 kb0
  have a_1 := Two.at (w.heap.size) w a b (by simp)
  obtain ⟨al, ap, aq⟩ := id a_1
  have hb2 := ba (w.alloc (.cells #[.int .i64 a, .int .i64 b] 23)) (.cells #[.int .i64 c, .int .i64 d] 23)
  have kb2 := kb1.trans (hb2.mono kb1.size)
  have hr2 := hr1.below hb2
  have a_2 := a_1.next hb2
  clear hb2 kb1 hr1 a_1
  have c_2 := Two.at (w.heap.size + 1) (w.alloc (.cells #[.int .i64 a, .int .i64 b] 23)) c d (by simp)
  clear al ap aq
  obtain ⟨al, ap, aq⟩ := id a_2
  obtain ⟨cl, cp, cq⟩ := id c_2
  go_wp2_with fail
  refine (sub_c a b c d _ HV.out.1 HV.out.2).mono ?_
  rintro e w3 ⟨rfl, hb3⟩
  have kb3 := kb2.trans (hb3.mono kb2.size)
  have hr3 := hr2.below hb3
  have a_3 := a_2.next hb3
  have c_3 := c_2.next hb3
  clear hb3 kb2 hr2 a_2 c_2
  clear al ap aq cl cp cq
  obtain ⟨al, ap, aq⟩ := id a_3
  obtain ⟨cl, cp, cq⟩ := id c_3
  have hb4 := ba w3 (.cells #[.int .i64 (clamp (a - d)), .int .i64 (clamp (b - c))] 23)
  have kb4 := kb3.trans (hb4.mono kb3.size)
  have hr4 := hr3.below hb4
  have a_4 := a_3.next hb4
  have c_4 := c_3.next hb4
  clear hb4 kb3 hr3 a_3 c_3
  have x_4 := Two.at (w3.heap.size) w3 (clamp (a - d)) (clamp (b - c)) (by simp)
  clear al ap aq cl cp cq
  obtain ⟨al, ap, aq⟩ := id a_4
  obtain ⟨cl, cp, cq⟩ := id c_4
  obtain ⟨xl, xp, xq⟩ := id x_4
  go_wp2_with fail
  refine (rsub_c a b c d _ HV.out.1 HV.out.2).mono ?_
  rintro e w5 ⟨rfl, hb5⟩
  have kb5 := kb4.trans (hb5.mono kb4.size)
  have hr5 := hr4.below hb5
  have a_5 := a_4.next hb5
  have c_5 := c_4.next hb5
  have x_5 := x_4.next hb5
  clear hb5 kb4 hr4 a_4 c_4 x_4
  clear al ap aq cl cp cq xl xp xq
  obtain ⟨al, ap, aq⟩ := id a_5
  obtain ⟨cl, cp, cq⟩ := id c_5
  obtain ⟨xl, xp, xq⟩ := id x_5
  have hb6 := ba w5 (.cells #[.int .i64 (clamp (a - d)), .int .i64 (clamp (b - c))] 23)
  have kb6 := kb5.trans (hb6.mono kb5.size)
  have hr6 := hr5.below hb6
  have a_6 := a_5.next hb6
  have c_6 := c_5.next hb6
  have x_6 := x_5.next hb6
  clear hb6 kb5 hr5 a_5 c_5 x_5
  have y_6 := Two.at (w5.heap.size) w5 (clamp (a - d)) (clamp (b - c)) (by simp)
  clear al ap aq cl cp cq xl xp xq
  obtain ⟨al, ap, aq⟩ := id a_6
  obtain ⟨cl, cp, cq⟩ := id c_6
  obtain ⟨xl, xp, xq⟩ := id x_6
  obtain ⟨yl, yp, yq⟩ := id y_6
  go_wp2_with fail
  have K : K3 w (w.heap.size) (w3.heap.size) (w5.heap.size) a b (clamp (a - d)) (clamp (b - c)) (clamp (a - d)) (clamp (b - c)) (w5.alloc (.cells #[.int .i64 (clamp (a - d)), .int .i64 (clamp (b - c))] 23)) := ⟨hr6, kb6, a_6, x_6, y_6⟩
  clear al ap aq cl cp cq xl xp xq yl yp yq a_6 c_6 x_6 y_6 hr6 kb6 hr
  generalize w.heap.size = A at *
  generalize w3.heap.size = X at *
  generalize w5.heap.size = Y at *
  generalize (w5.alloc (.cells #[.int .i64 (clamp (a - d)), .int .i64 (clamp (b - c))] 23)) = W at *
  generalize (clamp (a - d)) = P at *
  generalize (clamp (b - c)) = Q at *
  refine (examples_c _ K.ready).mono ?_
  rintro e w1 ⟨rfl, hb1⟩
  replace K := K.next hb1
  obtain ⟨_, _, ⟨al, ap, aq⟩, ⟨xl, xp, xq⟩, ⟨yl, yp, yq⟩⟩ := id K
  go_wp2_with fail
  go_ret
  exact ⟨rfl, K.below⟩

set_option maxRecDepth 100000 in
set_option maxHeartbeats 8000000 in
theorem sub_n (a b c d : Int) (h : ¬ (vld a b = true ∧ vld c d = true)) (w : World) (hr : Ready w) :
    Calls Tryd.prog 4 #[iv a b, iv c d] w fun e w' => e = .returned (.bool true) ∧ Below w.heap.size w w' := by
  have HV := Lib.hid h
  clear h
  have kb0 := Below.refl w.heap.size w
  go_enter Tryd.func4, Tryd.ntmps4
  go_wp2_with fail
  have hb1 := ba w (.cells #[.int .i64 a, .int .i64 b] 23)
  have kb1 := kb0.trans (hb1.mono kb0.size)
  have hr1 := hr.below hb1
  clear hb1 kb0
  have a_1 := Two.at (w.heap.size) w a b (by simp)
  obtain ⟨al, ap, aq⟩ := id a_1
  have hb2 := ba (w.alloc (.cells #[.int .i64 a, .int .i64 b] 23)) (.cells #[.int .i64 c, .int .i64 d] 23)
  have kb2 := kb1.trans (hb2.mono kb1.size)
  have hr2 := hr1.below hb2
  have a_2 := a_1.next hb2
  clear hb2 kb1 hr1 a_1
  have c_2 := Two.at (w.heap.size + 1) (w.alloc (.cells #[.int .i64 a, .int .i64 b] 23)) c d (by simp)
  clear al ap aq
  obtain ⟨al, ap, aq⟩ := id a_2
  obtain ⟨cl, cp, cq⟩ := id c_2
  go_wp2_with fail
  refine (sub_no a b c d _ HV.out).mono ?_
  rintro e w3 ⟨rfl, hb3⟩
  have kb3 := kb2.trans (hb3.mono kb2.size)
  have hr3 := hr2.below hb3
  have a_3 := a_2.next hb3
  have c_3 := c_2.next hb3
  clear hb3 kb2 hr2 a_2 c_2
  clear al ap aq cl cp cq
  obtain ⟨al, ap, aq⟩ := id a_3
  obtain ⟨cl, cp, cq⟩ := id c_3
  have hb4 := ba w3 (.cells #[.int .i64 0, .int .i64 0] 23)
  have kb4 := kb3.trans (hb4.mono kb3.size)
  have hr4 := hr3.below hb4
  have a_4 := a_3.next hb4
  have c_4 := c_3.next hb4
  clear hb4 kb3 hr3 a_3 c_3
  have x_4 := Two.at (w3.heap.size) w3 0 0 (by simp)
  clear al ap aq cl cp cq
  obtain ⟨al, ap, aq⟩ := id a_4
  obtain ⟨cl, cp, cq⟩ := id c_4
  obtain ⟨xl, xp, xq⟩ := id x_4
  go_wp2_with fail
  refine (rsub_no a b c d _ HV.out).mono ?_
  rintro e w5 ⟨rfl, hb5⟩
  have kb5 := kb4.trans (hb5.mono kb4.size)
  have hr5 := hr4.below hb5
  have a_5 := a_4.next hb5
  have c_5 := c_4.next hb5
  have x_5 := x_4.next hb5
  clear hb5 kb4 hr4 a_4 c_4 x_4
  clear al ap aq cl cp cq xl xp xq
  obtain ⟨al, ap, aq⟩ := id a_5
  obtain ⟨cl, cp, cq⟩ := id c_5
  obtain ⟨xl, xp, xq⟩ := id x_5
  have hb6 := ba w5 (.cells #[.int .i64 0, .int .i64 0] 23)
  have kb6 := kb5.trans (hb6.mono kb5.size)
  have hr6 := hr5.below hb6
  have a_6 := a_5.next hb6
  have c_6 := c_5.next hb6
  have x_6 := x_5.next hb6
  clear hb6 kb5 hr5 a_5 c_5 x_5
  have y_6 := Two.at (w5.heap.size) w5 0 0 (by simp)
  clear al ap aq cl cp cq xl xp xq
  obtain ⟨al, ap, aq⟩ := id a_6
  obtain ⟨cl, cp, cq⟩ := id c_6
  obtain ⟨xl, xp, xq⟩ := id x_6
  obtain ⟨yl, yp, yq⟩ := id y_6
  go_wp2_with fail
  have K : K3 w (w.heap.size) (w3.heap.size) (w5.heap.size) a b 0 0 0 0 (w5.alloc (.cells #[.int .i64 0, .int .i64 0] 23)) := ⟨hr6, kb6, a_6, x_6, y_6⟩
  clear al ap aq cl cp cq xl xp xq yl yp yq a_6 c_6 x_6 y_6 hr6 kb6 hr
  generalize w.heap.size = A at *
  generalize w3.heap.size = X at *
  generalize w5.heap.size = Y at *
  generalize (w5.alloc (.cells #[.int .i64 0, .int .i64 0] 23)) = W at *
  refine (examples_c _ K.ready).mono ?_
  rintro e w1 ⟨rfl, hb1⟩
  replace K := K.next hb1
  obtain ⟨_, _, ⟨al, ap, aq⟩, ⟨xl, xp, xq⟩, ⟨yl, yp, yq⟩⟩ := id K
  go_wp2_with fail
  go_ret
  exact ⟨rfl, K.below⟩

theorem add_w (a b c d t : Int) (w : World) (hr : Ready w) :
    Calls Tryd.prog 3 #[iv a b, iv c d, .int .i64 t] w fun e w' => e = .returned (.bool true) ∧ Below w.heap.size w w' := by
  by_cases h : vld a b = true ∧ vld c d = true
  · exact add_y a b c d t h w hr
  · exact add_n a b c d t h w hr
theorem sub_w (a b c d : Int) (w : World) (hr : Ready w) :
    Calls Tryd.prog 4 #[iv a b, iv c d] w fun e w' => e = .returned (.bool true) ∧ Below w.heap.size w w' := by
  by_cases h : vld a b = true ∧ vld c d = true
  · exact sub_y a b c d h w hr
  · exact sub_n a b c d h w hr
end Go.Proofs.YtmihogccpgdpaaaDoor
