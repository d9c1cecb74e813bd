/-
  The walk of IntervalSets.
-/
import Derived.Test.YtmihogccpgdpaaaDoorLaws
namespace Go.Proofs.YtmihogccpgdpaaaDoor
open Go.RowKit

set_option maxRecDepth 100000 in
set_option maxHeartbeats 8000000 in
theorem sets_y (a b c d : Int) (h : vld a b = true ∧ vld c d = true) (hm : max a c ≤ min b d) (w : World) (hr : Ready w) :
    Calls Tryd.prog 8 #[iv a b, iv c d] w fun e w' => e = .returned (.bool true) ∧ Below w.heap.size w w' := by
  have hm2 : max c a ≤ min d b := by omega
  have HM := Lib.hid hm
  have HM2 := Lib.hid hm2
  clear hm hm2
  have HV := Lib.hid h
  clear h
  have kb0 := Below.refl w.heap.size w
  go_enter Tryd.func8, Tryd.ntmps8
  go_wp2_with fail
  have hb1 := ba w (.cells #[.int .i64 a, .int .i64 b] 23)
  have kb1 := kb0.trans (hb1.mono kb0.size)
  have hr1 := hr.below hb1
  clear hb1 kb0
  have a_1 := Two.at (w.heap.size) w a b (by simp)
  obtain ⟨al, ap, aq⟩ := id a_1
  have hb2 := ba (w.alloc (.cells #[.int .i64 a, .int .i64 b] 23)) (.cells #[.int .i64 c, .int .i64 d] 23)
  have kb2 := kb1.trans (hb2.mono kb1.size)
  have hr2 := hr1.below hb2
  have a_2 := a_1.next hb2
  clear hb2 kb1 hr1 a_1
  have c_2 := Two.at (w.heap.size + 1) (w.alloc (.cells #[.int .i64 a, .int .i64 b] 23)) c d (by simp)
  clear al ap aq
  obtain ⟨al, ap, aq⟩ := id a_2
  obtain ⟨cl, cp, cq⟩ := id c_2
  go_wp2_with fail
  refine (hull_c a b c d _ HV.out.1 HV.out.2).mono ?_
  rintro e w3 ⟨rfl, hb3⟩
  have kb3 := kb2.trans (hb3.mono kb2.size)
  have hr3 := hr2.below hb3
  have a_3 := a_2.next hb3
  have c_3 := c_2.next hb3
  clear hb3 kb2 hr2 a_2 c_2
  clear al ap aq cl cp cq
  obtain ⟨al, ap, aq⟩ := id a_3
  obtain ⟨cl, cp, cq⟩ := id c_3
  have hb4 := ba w3 (.cells #[.int .i64 (min a c), .int .i64 (max b d)] 23)
  have kb4 := kb3.trans (hb4.mono kb3.size)
  have hr4 := hr3.below hb4
  have a_4 := a_3.next hb4
  have c_4 := c_3.next hb4
  clear hb4 kb3 hr3 a_3 c_3
  have x_4 := Two.at (w3.heap.size) w3 (min a c) (max b d) (by simp)
  clear al ap aq cl cp cq
  obtain ⟨al, ap, aq⟩ := id a_4
  obtain ⟨cl, cp, cq⟩ := id c_4
  obtain ⟨xl, xp, xq⟩ := id x_4
  go_wp2_with fail
  refine (meet_c a b c d _ HV.out.1 HV.out.2 (by have := HM.out; omega)).mono ?_
  rintro e w5 ⟨rfl, hb5⟩
  have kb5 := kb4.trans (hb5.mono kb4.size)
  have hr5 := hr4.below hb5
  have a_5 := a_4.next hb5
  have c_5 := c_4.next hb5
  have x_5 := x_4.next hb5
  clear hb5 kb4 hr4 a_4 c_4 x_4
  clear al ap aq cl cp cq xl xp xq
  obtain ⟨al, ap, aq⟩ := id a_5
  obtain ⟨cl, cp, cq⟩ := id c_5
  obtain ⟨xl, xp, xq⟩ := id x_5
  have hb6 := ba w5 (.cells #[.int .i64 (max a c), .int .i64 (min b d)] 23)
  have kb6 := kb5.trans (hb6.mono kb5.size)
  have hr6 := hr5.below hb6
  have a_6 := a_5.next hb6
  have c_6 := c_5.next hb6
  have x_6 := x_5.next hb6
  clear hb6 kb5 hr5 a_5 c_5 x_5
  have y_6 := Two.at (w5.heap.size) w5 (max a c) (min b d) (by simp)
  clear al ap aq cl cp cq xl xp xq
  obtain ⟨al, ap, aq⟩ := id a_6
  obtain ⟨cl, cp, cq⟩ := id c_6
  obtain ⟨xl, xp, xq⟩ := id x_6
  obtain ⟨yl, yp, yq⟩ := id y_6
  go_wp2_with fail
  refine (rhull_c a b c d _ HV.out.1 HV.out.2).mono ?_
  rintro e w7 ⟨rfl, hb7⟩
  have kb7 := kb6.trans (hb7.mono kb6.size)
  have hr7 := hr6.below hb7
  have a_7 := a_6.next hb7
  have c_7 := c_6.next hb7
  have x_7 := x_6.next hb7
  have y_7 := y_6.next hb7
  clear hb7 kb6 hr6 a_6 c_6 x_6 y_6
  clear al ap aq cl cp cq xl xp xq yl yp yq
  obtain ⟨al, ap, aq⟩ := id a_7
  obtain ⟨cl, cp, cq⟩ := id c_7
  obtain ⟨xl, xp, xq⟩ := id x_7
  obtain ⟨yl, yp, yq⟩ := id y_7
  have hb8 := ba w7 (.cells #[.int .i64 (min a c), .int .i64 (max b d)] 23)
  have kb8 := kb7.trans (hb8.mono kb7.size)
  have hr8 := hr7.below hb8
  have a_8 := a_7.next hb8
  have c_8 := c_7.next hb8
  have x_8 := x_7.next hb8
  have y_8 := y_7.next hb8
  clear hb8 kb7 hr7 a_7 c_7 x_7 y_7
  have u_8 := Two.at (w7.heap.size) w7 (min a c) (max b d) (by simp)
  clear al ap aq cl cp cq xl xp xq yl yp yq
  obtain ⟨al, ap, aq⟩ := id a_8
  obtain ⟨cl, cp, cq⟩ := id c_8
  obtain ⟨xl, xp, xq⟩ := id x_8
  obtain ⟨yl, yp, yq⟩ := id y_8
  obtain ⟨ul, up, uq⟩ := id u_8
  go_wp2_with fail
  refine (rmeet_c a b c d _ HV.out.1 HV.out.2 (by have := HM.out; omega)).mono ?_
  rintro e w9 ⟨rfl, hb9⟩
  have kb9 := kb8.trans (hb9.mono kb8.size)
  have hr9 := hr8.below hb9
  have a_9 := a_8.next hb9
  have c_9 := c_8.next hb9
  have x_9 := x_8.next hb9
  have y_9 := y_8.next hb9
  have u_9 := u_8.next hb9
  clear hb9 kb8 hr8 a_8 c_8 x_8 y_8 u_8
  clear al ap aq cl cp cq xl xp xq yl yp yq ul up uq
  obtain ⟨al, ap, aq⟩ := id a_9
  obtain ⟨cl, cp, cq⟩ := id c_9
  obtain ⟨xl, xp, xq⟩ := id x_9
  obtain ⟨yl, yp, yq⟩ := id y_9
  obtain ⟨ul, up, uq⟩ := id u_9
  have hb10 := ba w9 (.cells #[.int .i64 (max a c), .int .i64 (min b d)] 23)
  have kb10 := kb9.trans (hb10.mono kb9.size)
  have hr10 := hr9.below hb10
  have a_10 := a_9.next hb10
  have c_10 := c_9.next hb10
  have x_10 := x_9.next hb10
  have y_10 := y_9.next hb10
  have u_10 := u_9.next hb10
  clear hb10 kb9 hr9 a_9 c_9 x_9 y_9 u_9
  have v_10 := Two.at (w9.heap.size) w9 (max a c) (min b d) (by simp)
  clear al ap aq cl cp cq xl xp xq yl yp yq ul up uq
  obtain ⟨al, ap, aq⟩ := id a_10
  obtain ⟨cl, cp, cq⟩ := id c_10
  obtain ⟨xl, xp, xq⟩ := id x_10
  obtain ⟨yl, yp, yq⟩ := id y_10
  obtain ⟨ul, up, uq⟩ := id u_10
  obtain ⟨vl, vp, vq⟩ := id v_10
  go_wp2_with fail
  refine (hull_c c d a b _ HV.out.2 HV.out.1).mono ?_
  rintro e w11 ⟨rfl, hb11⟩
  have kb11 := kb10.trans (hb11.mono kb10.size)
  have hr11 := hr10.below hb11
  have a_11 := a_10.next hb11
  have c_11 := c_10.next hb11
  have x_11 := x_10.next hb11
  have y_11 := y_10.next hb11
  have u_11 := u_10.next hb11
  have v_11 := v_10.next hb11
  clear hb11 kb10 hr10 a_10 c_10 x_10 y_10 u_10 v_10
  clear al ap aq cl cp cq xl xp xq yl yp yq ul up uq vl vp vq
  obtain ⟨al, ap, aq⟩ := id a_11
  obtain ⟨cl, cp, cq⟩ := id c_11
  obtain ⟨xl, xp, xq⟩ := id x_11
  obtain ⟨yl, yp, yq⟩ := id y_11
  obtain ⟨ul, up, uq⟩ := id u_11
  obtain ⟨vl, vp, vq⟩ := id v_11
  rw [show min c a = min a c by omega, show max d b = max b d by omega]
  have hb12 := ba w11 (.cells #[.int .i64 (min a c), .int .i64 (max b d)] 23)
  have kb12 := kb11.trans (hb12.mono kb11.size)
  have hr12 := hr11.below hb12
  have a_12 := a_11.next hb12
  have c_12 := c_11.next hb12
  have x_12 := x_11.next hb12
  have y_12 := y_11.next hb12
  have u_12 := u_11.next hb12
  have v_12 := v_11.next hb12
  clear hb12 kb11 hr11 a_11 c_11 x_11 y_11 u_11 v_11
  have p_12 := Two.at (w11.heap.size) w11 (min a c) (max b d) (by simp)
  clear al ap aq cl cp cq xl xp xq yl yp yq ul up uq vl vp vq
  obtain ⟨al, ap, aq⟩ := id a_12
  obtain ⟨cl, cp, cq⟩ := id c_12
  obtain ⟨xl, xp, xq⟩ := id x_12
  obtain ⟨yl, yp, yq⟩ := id y_12
  obtain ⟨ul, up, uq⟩ := id u_12
  obtain ⟨vl, vp, vq⟩ := id v_12
  obtain ⟨pl, pp, pq⟩ := id p_12
  go_wp2_with fail
  refine (meet_c c d a b _ HV.out.2 HV.out.1 (by have := HM2.out; omega)).mono ?_
  rintro e w13 ⟨rfl, hb13⟩
  have kb13 := kb12.trans (hb13.mono kb12.size)
  have hr13 := hr12.below hb13
  have a_13 := a_12.next hb13
  have c_13 := c_12.next hb13
  have x_13 := x_12.next hb13
  have y_13 := y_12.next hb13
  have u_13 := u_12.next hb13
  have v_13 := v_12.next hb13
  have p_13 := p_12.next hb13
  clear hb13 kb12 hr12 a_12 c_12 x_12 y_12 u_12 v_12 p_12
  clear al ap aq cl cp cq xl xp xq yl yp yq ul up uq vl vp vq pl pp pq
  obtain ⟨al, ap, aq⟩ := id a_13
  obtain ⟨cl, cp, cq⟩ := id c_13
  obtain ⟨xl, xp, xq⟩ := id x_13
  obtain ⟨yl, yp, yq⟩ := id y_13
  obtain ⟨ul, up, uq⟩ := id u_13
  obtain ⟨vl, vp, vq⟩ := id v_13
  obtain ⟨pl, pp, pq⟩ := id p_13
  rw [show max c a = max a c by omega, show min d b = min b d by omega]
  have hb14 := ba w13 (.cells #[.int .i64 (max a c), .int .i64 (min b d)] 23)
  have kb14 := kb13.trans (hb14.mono kb13.size)
  have hr14 := hr13.below hb14
  have a_14 := a_13.next hb14
  have c_14 := c_13.next hb14
  have x_14 := x_13.next hb14
  have y_14 := y_13.next hb14
  have u_14 := u_13.next hb14
  have v_14 := v_13.next hb14
  have p_14 := p_13.next hb14
  clear hb14 kb13 hr13 a_13 c_13 x_13 y_13 u_13 v_13 p_13
  have q_14 := Two.at (w13.heap.size) w13 (max a c) (min b d) (by simp)
  clear al ap aq cl cp cq xl xp xq yl yp yq ul up uq vl vp vq pl pp pq
  obtain ⟨al, ap, aq⟩ := id a_14
  obtain ⟨cl, cp, cq⟩ := id c_14
  obtain ⟨xl, xp, xq⟩ := id x_14
  obtain ⟨yl, yp, yq⟩ := id y_14
  obtain ⟨ul, up, uq⟩ := id u_14
  obtain ⟨vl, vp, vq⟩ := id v_14
  obtain ⟨pl, pp, pq⟩ := id p_14
  obtain ⟨ql, qp, qq⟩ := id q_14
  go_wp2_with fail
  refine (examples_c _ hr14).mono ?_
  rintro e w15 ⟨rfl, hb15⟩
  have kb15 := kb14.trans (hb15.mono kb14.size)
  have hr15 := hr14.below hb15
  have a_15 := a_14.next hb15
  have c_15 := c_14.next hb15
  have x_15 := x_14.next hb15
  have y_15 := y_14.next hb15
  have u_15 := u_14.next hb15
  have v_15 := v_14.next hb15
  have p_15 := p_14.next hb15
  have q_15 := q_14.next hb15
  clear hb15 kb14 hr14 a_14 c_14 x_14 y_14 u_14 v_14 p_14 q_14
  clear al ap aq cl cp cq xl xp xq yl yp yq ul up uq vl vp vq pl pp pq ql qp qq
  obtain ⟨al, ap, aq⟩ := id a_15
  obtain ⟨cl, cp, cq⟩ := id c_15
  obtain ⟨xl, xp, xq⟩ := id x_15
  obtain ⟨yl, yp, yq⟩ := id y_15
  obtain ⟨ul, up, uq⟩ := id u_15
  obtain ⟨vl, vp, vq⟩ := id v_15
  obtain ⟨pl, pp, pq⟩ := id p_15
  obtain ⟨ql, qp, qq⟩ := id q_15
  go_wp2_with fail
  go_ret
  exact ⟨rfl, kb15⟩

set_option maxRecDepth 100000 in
set_option maxHeartbeats 8000000 in
theorem sets_e (a b c d : Int) (h : vld a b = true ∧ vld c d = true) (hm : ¬ max a c ≤ min b d) (w : World) (hr : Ready w) :
    Calls Tryd.prog 8 #[iv a b, iv c d] w fun e w' => e = .returned (.bool true) ∧ Below w.heap.size w w' := by
  have hm2 : ¬ max c a ≤ min d b := by omega
  have HM := Lib.hid hm
  have HM2 := Lib.hid hm2
  clear hm hm2
  have HV := Lib.hid h
  clear h
  have kb0 := Below.refl w.heap.size w
  go_enter Tryd.func8, Tryd.ntmps8
  go_wp2_with fail
  have hb1 := ba w (.cells #[.int .i64 a, .int .i64 b] 23)
  have kb1 := kb0.trans (hb1.mono kb0.size)
  have hr1 := hr.below hb1
  clear hb1 kb0
  have a_1 := Two.at (w.heap.size) w a b (by simp)
  obtain ⟨al, ap, aq⟩ := id a_1
  have hb2 := ba (w.alloc (.cells #[.int .i64 a, .int .i64 b] 23)) (.cells #[.int .i64 c, .int .i64 d] 23)
  have kb2 := kb1.trans (hb2.mono kb1.size)
  have hr2 := hr1.below hb2
  have a_2 := a_1.next hb2
  clear hb2 kb1 hr1 a_1
  have c_2 := Two.at (w.heap.size + 1) (w.alloc (.cells #[.int .i64 a, .int .i64 b] 23)) c d (by simp)
  clear al ap aq
  obtain ⟨al, ap, aq⟩ := id a_2
  obtain ⟨cl, cp, cq⟩ := id c_2
  go_wp2_with fail
  refine (hull_c a b c d _ HV.out.1 HV.out.2).mono ?_
  rintro e w3 ⟨rfl, hb3⟩
  have kb3 := kb2.trans (hb3.mono kb2.size)
  have hr3 := hr2.below hb3
  have a_3 := a_2.next hb3
  have c_3 := c_2.next hb3
  clear hb3 kb2 hr2 a_2 c_2
  clear al ap aq cl cp cq
  obtain ⟨al, ap, aq⟩ := id a_3
  obtain ⟨cl, cp, cq⟩ := id c_3
  have hb4 := ba w3 (.cells #[.int .i64 (min a c), .int .i64 (max b d)] 23)
  have kb4 := kb3.trans (hb4.mono kb3.size)
  have hr4 := hr3.below hb4
  have a_4 := a_3.next hb4
  have c_4 := c_3.next hb4
  clear hb4 kb3 hr3 a_3 c_3
  have x_4 := Two.at (w3.heap.size) w3 (min a c) (max b d) (by simp)
  clear al ap aq cl cp cq
  obtain ⟨al, ap, aq⟩ := id a_4
  obtain ⟨cl, cp, cq⟩ := id c_4
  obtain ⟨xl, xp, xq⟩ := id x_4
  go_wp2_with fail
  refine (meetE_c a b c d _ HV.out.1 HV.out.2 (by have := HM.out; omega)).mono ?_
  rintro e w5 ⟨rfl, hb5⟩
  have kb5 := kb4.trans (hb5.mono kb4.size)
  have hr5 := hr4.below hb5
  have a_5 := a_4.next hb5
  have c_5 := c_4.next hb5
  have x_5 := x_4.next hb5
  clear hb5 kb4 hr4 a_4 c_4 x_4
  clear al ap aq cl cp cq xl xp xq
  obtain ⟨al, ap, aq⟩ := id a_5
  obtain ⟨cl, cp, cq⟩ := id c_5
  obtain ⟨xl, xp, xq⟩ := id x_5
  have hb6 := ba w5 (.cells #[.int .i64 0, .int .i64 0] 23)
  have kb6 := kb5.trans (hb6.mono kb5.size)
  have hr6 := hr5.below hb6
  have a_6 := a_5.next hb6
  have c_6 := c_5.next hb6
  have x_6 := x_5.next hb6
  clear hb6 kb5 hr5 a_5 c_5 x_5
  have y_6 := Two.at (w5.heap.size) w5 0 0 (by simp)
  clear al ap aq cl cp cq xl xp xq
  obtain ⟨al, ap, aq⟩ := id a_6
  obtain ⟨cl, cp, cq⟩ := id c_6
  obtain ⟨xl, xp, xq⟩ := id x_6
  obtain ⟨yl, yp, yq⟩ := id y_6
  go_wp2_with fail
  refine (rhull_c a b c d _ HV.out.1 HV.out.2).mono ?_
  rintro e w7 ⟨rfl, hb7⟩
  have kb7 := kb6.trans (hb7.mono kb6.size)
  have hr7 := hr6.below hb7
  have a_7 := a_6.next hb7
  have c_7 := c_6.next hb7
  have x_7 := x_6.next hb7
  have y_7 := y_6.next hb7
  clear hb7 kb6 hr6 a_6 c_6 x_6 y_6
  clear al ap aq cl cp cq xl xp xq yl yp yq
  obtain ⟨al, ap, aq⟩ := id a_7
  obtain ⟨cl, cp, cq⟩ := id c_7
  obtain ⟨xl, xp, xq⟩ := id x_7
  obtain ⟨yl, yp, yq⟩ := id y_7
  have hb8 := ba w7 (.cells #[.int .i64 (min a c), .int .i64 (max b d)] 23)
  have kb8 := kb7.trans (hb8.mono kb7.size)
  have hr8 := hr7.below hb8
  have a_8 := a_7.next hb8
  have c_8 := c_7.next hb8
  have x_8 := x_7.next hb8
  have y_8 := y_7.next hb8
  clear hb8 kb7 hr7 a_7 c_7 x_7 y_7
  have u_8 := Two.at (w7.heap.size) w7 (min a c) (max b d) (by simp)
  clear al ap aq cl cp cq xl xp xq yl yp yq
  obtain ⟨al, ap, aq⟩ := id a_8
  obtain ⟨cl, cp, cq⟩ := id c_8
  obtain ⟨xl, xp, xq⟩ := id x_8
  obtain ⟨yl, yp, yq⟩ := id y_8
  obtain ⟨ul, up, uq⟩ := id u_8
  go_wp2_with fail
  refine (rmeetE_c a b c d _ HV.out.1 HV.out.2 (by have := HM.out; omega)).mono ?_
  rintro e w9 ⟨rfl, hb9⟩
  have kb9 := kb8.trans (hb9.mono kb8.size)
  have hr9 := hr8.below hb9
  have a_9 := a_8.next hb9
  have c_9 := c_8.next hb9
  have x_9 := x_8.next hb9
  have y_9 := y_8.next hb9
  have u_9 := u_8.next hb9
  clear hb9 kb8 hr8 a_8 c_8 x_8 y_8 u_8
  clear al ap aq cl cp cq xl xp xq yl yp yq ul up uq
  obtain ⟨al, ap, aq⟩ := id a_9
  obtain ⟨cl, cp, cq⟩ := id c_9
  obtain ⟨xl, xp, xq⟩ := id x_9
  obtain ⟨yl, yp, yq⟩ := id y_9
  obtain ⟨ul, up, uq⟩ := id u_9
  have hb10 := ba w9 (.cells #[.int .i64 0, .int .i64 0] 23)
  have kb10 := kb9.trans (hb10.mono kb9.size)
  have hr10 := hr9.below hb10
  have a_10 := a_9.next hb10
  have c_10 := c_9.next hb10
  have x_10 := x_9.next hb10
  have y_10 := y_9.next hb10
  have u_10 := u_9.next hb10
  clear hb10 kb9 hr9 a_9 c_9 x_9 y_9 u_9
  have v_10 := Two.at (w9.heap.size) w9 0 0 (by simp)
  clear al ap aq cl cp cq xl xp xq yl yp yq ul up uq
  obtain ⟨al, ap, aq⟩ := id a_10
  obtain ⟨cl, cp, cq⟩ := id c_10
  obtain ⟨xl, xp, xq⟩ := id x_10
  obtain ⟨yl, yp, yq⟩ := id y_10
  obtain ⟨ul, up, uq⟩ := id u_10
  obtain ⟨vl, vp, vq⟩ := id v_10
  go_wp2_with fail
  refine (hull_c c d a b _ HV.out.2 HV.out.1).mono ?_
  rintro e w11 ⟨rfl, hb11⟩
  have kb11 := kb10.trans (hb11.mono kb10.size)
  have hr11 := hr10.below hb11
  have a_11 := a_10.next hb11
  have c_11 := c_10.next hb11
  have x_11 := x_10.next hb11
  have y_11 := y_10.next hb11
  have u_11 := u_10.next hb11
  have v_11 := v_10.next hb11
  clear hb11 kb10 hr10 a_10 c_10 x_10 y_10 u_10 v_10
  clear al ap aq cl cp cq xl xp xq yl yp yq ul up uq vl vp vq
  obtain ⟨al, ap, aq⟩ := id a_11
  obtain ⟨cl, cp, cq⟩ := id c_11
  obtain ⟨xl, xp, xq⟩ := id x_11
  obtain ⟨yl, yp, yq⟩ := id y_11
  obtain ⟨ul, up, uq⟩ := id u_11
  obtain ⟨vl, vp, vq⟩ := id v_11
  rw [show min c a = min a c by omega, show max d b = max b d by omega]
  have hb12 := ba w11 (.cells #[.int .i64 (min a c), .int .i64 (max b d)] 23)
  have kb12 := kb11.trans (hb12.mono kb11.size)
  have hr12 := hr11.below hb12
  have a_12 := a_11.next hb12
  have c_12 := c_11.next hb12
  have x_12 := x_11.next hb12
  have y_12 := y_11.next hb12
  have u_12 := u_11.next hb12
  have v_12 := v_11.next hb12
  clear hb12 kb11 hr11 a_11 c_11 x_11 y_11 u_11 v_11
  have p_12 := Two.at (w11.heap.size) w11 (min a c) (max b d) (by simp)
  clear al ap aq cl cp cq xl xp xq yl yp yq ul up uq vl vp vq
  obtain ⟨al, ap, aq⟩ := id a_12
  obtain ⟨cl, cp, cq⟩ := id c_12
  obtain ⟨xl, xp, xq⟩ := id x_12
  obtain ⟨yl, yp, yq⟩ := id y_12
  obtain ⟨ul, up, uq⟩ := id u_12
  obtain ⟨vl, vp, vq⟩ := id v_12
  obtain ⟨pl, pp, pq⟩ := id p_12
  go_wp2_with fail
  refine (meetE_c c d a b _ HV.out.2 HV.out.1 (by have := HM2.out; omega)).mono ?_
  rintro e w13 ⟨rfl, hb13⟩
  have kb13 := kb12.trans (hb13.mono kb12.size)
  have hr13 := hr12.below hb13
  have a_13 := a_12.next hb13
  have c_13 := c_12.next hb13
  have x_13 := x_12.next hb13
  have y_13 := y_12.next hb13
  have u_13 := u_12.next hb13
  have v_13 := v_12.next hb13
  have p_13 := p_12.next hb13
  clear hb13 kb12 hr12 a_12 c_12 x_12 y_12 u_12 v_12 p_12
  clear al ap aq cl cp cq xl xp xq yl yp yq ul up uq vl vp vq pl pp pq
  obtain ⟨al, ap, aq⟩ := id a_13
  obtain ⟨cl, cp, cq⟩ := id c_13
  obtain ⟨xl, xp, xq⟩ := id x_13
  obtain ⟨yl, yp, yq⟩ := id y_13
  obtain ⟨ul, up, uq⟩ := id u_13
  obtain ⟨vl, vp, vq⟩ := id v_13
  obtain ⟨pl, pp, pq⟩ := id p_13
  have hb14 := ba w13 (.cells #[.int .i64 0, .int .i64 0] 23)
  have kb14 := kb13.trans (hb14.mono kb13.size)
  have hr14 := hr13.below hb14
  have a_14 := a_13.next hb14
  have c_14 := c_13.next hb14
  have x_14 := x_13.next hb14
  have y_14 := y_13.next hb14
  have u_14 := u_13.next hb14
  have v_14 := v_13.next hb14
  have p_14 := p_13.next hb14
  clear hb14 kb13 hr13 a_13 c_13 x_13 y_13 u_13 v_13 p_13
  have q_14 := Two.at (w13.heap.size) w13 0 0 (by simp)
  clear al ap aq cl cp cq xl xp xq yl yp yq ul up uq vl vp vq pl pp pq
  obtain ⟨al, ap, aq⟩ := id a_14
  obtain ⟨cl, cp, cq⟩ := id c_14
  obtain ⟨xl, xp, xq⟩ := id x_14
  obtain ⟨yl, yp, yq⟩ := id y_14
  obtain ⟨ul, up, uq⟩ := id u_14
  obtain ⟨vl, vp, vq⟩ := id v_14
  obtain ⟨pl, pp, pq⟩ := id p_14
  obtain ⟨ql, qp, qq⟩ := id q_14
  go_wp2_with fail
  refine (examples_c _ hr14).mono ?_
  rintro e w15 ⟨rfl, hb15⟩
  have kb15 := kb14.trans (hb15.mono kb14.size)
  have hr15 := hr14.below hb15
  have a_15 := a_14.next hb15
  have c_15 := c_14.next hb15
  have x_15 := x_14.next hb15
  have y_15 := y_14.next hb15
  have u_15 := u_14.next hb15
  have v_15 := v_14.next hb15
  have p_15 := p_14.next hb15
  have q_15 := q_14.next hb15
  clear hb15 kb14 hr14 a_14 c_14 x_14 y_14 u_14 v_14 p_14 q_14
  clear al ap aq cl cp cq xl xp xq yl yp yq ul up uq vl vp vq pl pp pq ql qp qq
  obtain ⟨al, ap, aq⟩ := id a_15
  obtain ⟨cl, cp, cq⟩ := id c_15
  obtain ⟨xl, xp, xq⟩ := id x_15
  obtain ⟨yl, yp, yq⟩ := id y_15
  obtain ⟨ul, up, uq⟩ := id u_15
  obtain ⟨vl, vp, vq⟩ := id v_15
  obtain ⟨pl, pp, pq⟩ := id p_15
  obtain ⟨ql, qp, qq⟩ := id q_15
  go_wp2_with fail
  go_ret
  exact ⟨rfl, kb15⟩

set_option maxRecDepth 100000 in
set_option maxHeartbeats 8000000 in
theorem sets_n (a b c d : Int) (h : ¬ (vld a b = true ∧ vld c d = true)) (w : World) (hr : Ready w) :
    Calls Tryd.prog 8 #[iv a b, iv c d] w fun e w' => e = .returned (.bool true) ∧ Below w.heap.size w w' := by
  have HV := Lib.hid h
  clear h
  have kb0 := Below.refl w.heap.size w
  go_enter Tryd.func8, Tryd.ntmps8
  go_wp2_with fail
  have hb1 := ba w (.cells #[.int .i64 a, .int .i64 b] 23)
  have kb1 := kb0.trans (hb1.mono kb0.size)
  have hr1 := hr.below hb1
  clear hb1 kb0
  have a_1 := Two.at (w.heap.size) w a b (by simp)
  obtain ⟨al, ap, aq⟩ := id a_1
  have hb2 := ba (w.alloc (.cells #[.int .i64 a, .int .i64 b] 23)) (.cells #[.int .i64 c, .int .i64 d] 23)
  have kb2 := kb1.trans (hb2.mono kb1.size)
  have hr2 := hr1.below hb2
  have a_2 := a_1.next hb2
  clear hb2 kb1 hr1 a_1
  have c_2 := Two.at (w.heap.size + 1) (w.alloc (.cells #[.int .i64 a, .int .i64 b] 23)) c d (by simp)
  clear al ap aq
  obtain ⟨al, ap, aq⟩ := id a_2
  obtain ⟨cl, cp, cq⟩ := id c_2
  go_wp2_with fail
  refine (hull_no a b c d _ HV.out).mono ?_
  rintro e w3 ⟨rfl, hb3⟩
  have kb3 := kb2.trans (hb3.mono kb2.size)
  have hr3 := hr2.below hb3
  have a_3 := a_2.next hb3
  have c_3 := c_2.next hb3
  clear hb3 kb2 hr2 a_2 c_2
  clear al ap aq cl cp cq
  obtain ⟨al, ap, aq⟩ := id a_3
  obtain ⟨cl, cp, cq⟩ := id c_3
  have hb4 := ba w3 (.cells #[.int .i64 0, .int .i64 0] 23)
  have kb4 := kb3.trans (hb4.mono kb3.size)
  have hr4 := hr3.below hb4
  have a_4 := a_3.next hb4
  have c_4 := c_3.next hb4
  clear hb4 kb3 hr3 a_3 c_3
  have x_4 := Two.at (w3.heap.size) w3 0 0 (by simp)
  clear al ap aq cl cp cq
  obtain ⟨al, ap, aq⟩ := id a_4
  obtain ⟨cl, cp, cq⟩ := id c_4
  obtain ⟨xl, xp, xq⟩ := id x_4
  go_wp2_with fail
  refine (meet_no a b c d _ HV.out).mono ?_
  rintro e w5 ⟨rfl, hb5⟩
  have kb5 := kb4.trans (hb5.mono kb4.size)
  have hr5 := hr4.below hb5
  have a_5 := a_4.next hb5
  have c_5 := c_4.next hb5
  have x_5 := x_4.next hb5
  clear hb5 kb4 hr4 a_4 c_4 x_4
  clear al ap aq cl cp cq xl xp xq
  obtain ⟨al, ap, aq⟩ := id a_5
  obtain ⟨cl, cp, cq⟩ := id c_5
  obtain ⟨xl, xp, xq⟩ := id x_5
  have hb6 := ba w5 (.cells #[.int .i64 0, .int .i64 0] 23)
  have kb6 := kb5.trans (hb6.mono kb5.size)
  have hr6 := hr5.below hb6
  have a_6 := a_5.next hb6
  have c_6 := c_5.next hb6
  have x_6 := x_5.next hb6
  clear hb6 kb5 hr5 a_5 c_5 x_5
  have y_6 := Two.at (w5.heap.size) w5 0 0 (by simp)
  clear al ap aq cl cp cq xl xp xq
  obtain ⟨al, ap, aq⟩ := id a_6
  obtain ⟨cl, cp, cq⟩ := id c_6
  obtain ⟨xl, xp, xq⟩ := id x_6
  obtain ⟨yl, yp, yq⟩ := id y_6
  go_wp2_with fail
  refine (rhull1_no a b c d _ HV.out).mono ?_
  rintro e w7 ⟨rfl, hb7⟩
  have kb7 := kb6.trans (hb7.mono kb6.size)
  have hr7 := hr6.below hb7
  have a_7 := a_6.next hb7
  have c_7 := c_6.next hb7
  have x_7 := x_6.next hb7
  have y_7 := y_6.next hb7
  clear hb7 kb6 hr6 a_6 c_6 x_6 y_6
  clear al ap aq cl cp cq xl xp xq yl yp yq
  obtain ⟨al, ap, aq⟩ := id a_7
  obtain ⟨cl, cp, cq⟩ := id c_7
  obtain ⟨xl, xp, xq⟩ := id x_7
  obtain ⟨yl, yp, yq⟩ := id y_7
  have hb8 := ba w7 (.cells #[.int .i64 0, .int .i64 0] 23)
  have kb8 := kb7.trans (hb8.mono kb7.size)
  have hr8 := hr7.below hb8
  have a_8 := a_7.next hb8
  have c_8 := c_7.next hb8
  have x_8 := x_7.next hb8
  have y_8 := y_7.next hb8
  clear hb8 kb7 hr7 a_7 c_7 x_7 y_7
  have u_8 := Two.at (w7.heap.size) w7 0 0 (by simp)
  clear al ap aq cl cp cq xl xp xq yl yp yq
  obtain ⟨al, ap, aq⟩ := id a_8
  obtain ⟨cl, cp, cq⟩ := id c_8
  obtain ⟨xl, xp, xq⟩ := id x_8
  obtain ⟨yl, yp, yq⟩ := id y_8
  obtain ⟨ul, up, uq⟩ := id u_8
  go_wp2_with fail
  refine (rmeet0_no a b c d _ HV.out).mono ?_
  rintro e w9 ⟨rfl, hb9⟩
  have kb9 := kb8.trans (hb9.mono kb8.size)
  have hr9 := hr8.below hb9
  have a_9 := a_8.next hb9
  have c_9 := c_8.next hb9
  have x_9 := x_8.next hb9
  have y_9 := y_8.next hb9
  have u_9 := u_8.next hb9
  clear hb9 kb8 hr8 a_8 c_8 x_8 y_8 u_8
  clear al ap aq cl cp cq xl xp xq yl yp yq ul up uq
  obtain ⟨al, ap, aq⟩ := id a_9
  obtain ⟨cl, cp, cq⟩ := id c_9
  obtain ⟨xl, xp, xq⟩ := id x_9
  obtain ⟨yl, yp, yq⟩ := id y_9
  obtain ⟨ul, up, uq⟩ := id u_9
  have hb10 := ba w9 (.cells #[.int .i64 0, .int .i64 0] 23)
  have kb10 := kb9.trans (hb10.mono kb9.size)
  have hr10 := hr9.below hb10
  have a_10 := a_9.next hb10
  have c_10 := c_9.next hb10
  have x_10 := x_9.next hb10
  have y_10 := y_9.next hb10
  have u_10 := u_9.next hb10
  clear hb10 kb9 hr9 a_9 c_9 x_9 y_9 u_9
  have v_10 := Two.at (w9.heap.size) w9 0 0 (by simp)
  clear al ap aq cl cp cq xl xp xq yl yp yq ul up uq
  obtain ⟨al, ap, aq⟩ := id a_10
  obtain ⟨cl, cp, cq⟩ := id c_10
  obtain ⟨xl, xp, xq⟩ := id x_10
  obtain ⟨yl, yp, yq⟩ := id y_10
  obtain ⟨ul, up, uq⟩ := id u_10
  obtain ⟨vl, vp, vq⟩ := id v_10
  go_wp2_with fail
  refine (hull_no c d a b _ (fun h => HV.out ⟨h.2, h.1⟩)).mono ?_
  rintro e w11 ⟨rfl, hb11⟩
  have kb11 := kb10.trans (hb11.mono kb10.size)
  have hr11 := hr10.below hb11
  have a_11 := a_10.next hb11
  have c_11 := c_10.next hb11
  have x_11 := x_10.next hb11
  have y_11 := y_10.next hb11
  have u_11 := u_10.next hb11
  have v_11 := v_10.next hb11
  clear hb11 kb10 hr10 a_10 c_10 x_10 y_10 u_10 v_10
  clear al ap aq cl cp cq xl xp xq yl yp yq ul up uq vl vp vq
  obtain ⟨al, ap, aq⟩ := id a_11
  obtain ⟨cl, cp, cq⟩ := id c_11
  obtain ⟨xl, xp, xq⟩ := id x_11
  obtain ⟨yl, yp, yq⟩ := id y_11
  obtain ⟨ul, up, uq⟩ := id u_11
  obtain ⟨vl, vp, vq⟩ := id v_11
  have hb12 := ba w11 (.cells #[.int .i64 0, .int .i64 0] 23)
  have kb12 := kb11.trans (hb12.mono kb11.size)
  have hr12 := hr11.below hb12
  have a_12 := a_11.next hb12
  have c_12 := c_11.next hb12
  have x_12 := x_11.next hb12
  have y_12 := y_11.next hb12
  have u_12 := u_11.next hb12
  have v_12 := v_11.next hb12
  clear hb12 kb11 hr11 a_11 c_11 x_11 y_11 u_11 v_11
  have p_12 := Two.at (w11.heap.size) w11 0 0 (by simp)
  clear al ap aq cl cp cq xl xp xq yl yp yq ul up uq vl vp vq
  obtain ⟨al, ap, aq⟩ := id a_12
  obtain ⟨cl, cp, cq⟩ := id c_12
  obtain ⟨xl, xp, xq⟩ := id x_12
  obtain ⟨yl, yp, yq⟩ := id y_12
  obtain ⟨ul, up, uq⟩ := id u_12
  obtain ⟨vl, vp, vq⟩ := id v_12
  obtain ⟨pl, pp, pq⟩ := id p_12
  go_wp2_with fail
  refine (meet_no c d a b _ (fun h => HV.out ⟨h.2, h.1⟩)).mono ?_
  rintro e w13 ⟨rfl, hb13⟩
  have kb13 := kb12.trans (hb13.mono kb12.size)
  have hr13 := hr12.below hb13
  have a_13 := a_12.next hb13
  have c_13 := c_12.next hb13
  have x_13 := x_12.next hb13
  have y_13 := y_12.next hb13
  have u_13 := u_12.next hb13
  have v_13 := v_12.next hb13
  have p_13 := p_12.next hb13
  clear hb13 kb12 hr12 a_12 c_12 x_12 y_12 u_12 v_12 p_12
  clear al ap aq cl cp cq xl xp xq yl yp yq ul up uq vl vp vq pl pp pq
  obtain ⟨al, ap, aq⟩ := id a_13
  obtain ⟨cl, cp, cq⟩ := id c_13
  obtain ⟨xl, xp, xq⟩ := id x_13
  obtain ⟨yl, yp, yq⟩ := id y_13
  obtain ⟨ul, up, uq⟩ := id u_13
  obtain ⟨vl, vp, vq⟩ := id v_13
  obtain ⟨pl, pp, pq⟩ := id p_13
  have hb14 := ba w13 (.cells #[.int .i64 0, .int .i64 0] 23)
  have kb14 := kb13.trans (hb14.mono kb13.size)
  have hr14 := hr13.below hb14
  have a_14 := a_13.next hb14
  have c_14 := c_13.next hb14
  have x_14 := x_13.next hb14
  have y_14 := y_13.next hb14
  have u_14 := u_13.next hb14
  have v_14 := v_13.next hb14
  have p_14 := p_13.next hb14
  clear hb14 kb13 hr13 a_13 c_13 x_13 y_13 u_13 v_13 p_13
  have q_14 := Two.at (w13.heap.size) w13 0 0 (by simp)
  clear al ap aq cl cp cq xl xp xq yl yp yq ul up uq vl vp vq pl pp pq
  obtain ⟨al, ap, aq⟩ := id a_14
  obtain ⟨cl, cp, cq⟩ := id c_14
  obtain ⟨xl, xp, xq⟩ := id x_14
  obtain ⟨yl, yp, yq⟩ := id y_14
  obtain ⟨ul, up, uq⟩ := id u_14
  obtain ⟨vl, vp, vq⟩ := id v_14
  obtain ⟨pl, pp, pq⟩ := id p_14
  obtain ⟨ql, qp, qq⟩ := id q_14
  go_wp2_with fail
  refine (examples_c _ hr14).mono ?_
  rintro e w15 ⟨rfl, hb15⟩
  have kb15 := kb14.trans (hb15.mono kb14.size)
  have hr15 := hr14.below hb15
  have a_15 := a_14.next hb15
  have c_15 := c_14.next hb15
  have x_15 := x_14.next hb15
  have y_15 := y_14.next hb15
  have u_15 := u_14.next hb15
  have v_15 := v_14.next hb15
  have p_15 := p_14.next hb15
  have q_15 := q_14.next hb15
  clear hb15 kb14 hr14 a_14 c_14 x_14 y_14 u_14 v_14 p_14 q_14
  clear al ap aq cl cp cq xl xp xq yl yp yq ul up uq vl vp vq pl pp pq ql qp qq
  obtain ⟨al, ap, aq⟩ := id a_15
  obtain ⟨cl, cp, cq⟩ := id c_15
  obtain ⟨xl, xp, xq⟩ := id x_15
  obtain ⟨yl, yp, yq⟩ := id y_15
  obtain ⟨ul, up, uq⟩ := id u_15
  obtain ⟨vl, vp, vq⟩ := id v_15
  obtain ⟨pl, pp, pq⟩ := id p_15
  obtain ⟨ql, qp, qq⟩ := id q_15
  go_wp2_with fail
  go_ret
  exact ⟨rfl, kb15⟩

theorem sets_w (a b c d : Int) (w : World) (hr : Ready w) :
    Calls Tryd.prog 8 #[iv a b, iv c d] w fun e w' => e = .returned (.bool true) ∧ Below w.heap.size w w' := by
  by_cases h : vld a b = true ∧ vld c d = true
  · by_cases hm : max a c ≤ min b d
    · exact sets_y a b c d h hm w hr
    · exact sets_e a b c d h hm w hr
  · exact sets_n a b c d h w hr
end Go.Proofs.YtmihogccpgdpaaaDoor
