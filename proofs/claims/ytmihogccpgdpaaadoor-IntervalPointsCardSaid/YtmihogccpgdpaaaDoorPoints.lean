/-
  The walk of IntervalPoints.
-/
import Derived.Test.YtmihogccpgdpaaaDoorOrder
namespace Go.Proofs.YtmihogccpgdpaaaDoor
open Go.RowKit

theorem clamp_bd (t : Int) : 0 ≤ clamp t ∧ clamp t ≤ 1099511627776 := by unfold clamp; repeat' split
                                                                         all_goals omega
theorem clamp_mono {s t : Int} (h : s ≤ t) : clamp s ≤ clamp t := by unfold clamp; repeat' split
                                                                     all_goals omega
theorem clamp_min {t : Int} (h : 0 ≤ t) : min t 1099511627776 = clamp t := min_clamp h
theorem hs_sum {a b c d t u : Int} (a0 : 0 ≤ a) (_a1 : a ≤ b) (_a2 : b ≤ 1099511627776) (c0 : 0 ≤ c) (_c1 : c ≤ d) (_c2 : d ≤ 1099511627776) (t0 : a ≤ t) (t1 : t ≤ b) (u0 : c ≤ u) (u1 : u ≤ d) :
    (vld (clamp (a + c)) (clamp (b + d)) && decide (clamp (a + c) ≤ min (t + u) 1099511627776) && decide (min (t + u) 1099511627776 ≤ clamp (b + d))) = true := by
  rw [min_clamp (by omega)]
  have h1 := clamp_bd (a + c)
  have h2 := clamp_bd (b + d)
  have h3 : clamp (a + c) ≤ clamp (t + u) := clamp_mono (by omega)
  have h4 : clamp (t + u) ≤ clamp (b + d) := clamp_mono (by omega)
  simp [vld]; omega
theorem hs_diff {a b c d t u : Int} (_a0 : 0 ≤ a) (_a1 : a ≤ b) (a2 : b ≤ 1099511627776) (_c0 : 0 ≤ c) (_c1 : c ≤ d) (_c2 : d ≤ 1099511627776) (t0 : a ≤ t) (t1 : t ≤ b) (u0 : c ≤ u) (u1 : u ≤ d) (h : ¬ t < u) :
    (vld (clamp (a - d)) (clamp (b - c)) && decide (clamp (a - d) ≤ t - u) && decide (t - u ≤ clamp (b - c))) = true := by
  have h1 := clamp_bd (a - d)
  have h2 := clamp_bd (b - c)
  have h5 : clamp (t - u) = t - u := clamp_in (by omega) (by omega)
  have h3 : clamp (a - d) ≤ clamp (t - u) := clamp_mono (by omega)
  have h4 : clamp (t - u) ≤ clamp (b - c) := clamp_mono (by omega)
  simp [vld]; omega
theorem hs_hull {a b c d t : Int} (a0 : 0 ≤ a) (_a1 : a ≤ b) (a2 : b ≤ 1099511627776) (c0 : 0 ≤ c) (_c1 : c ≤ d) (c2 : d ≤ 1099511627776) (t0 : min a c ≤ t) (t1 : t ≤ max b d) :
    (vld (min a c) (max b d) && decide (min a c ≤ t) && decide (t ≤ max b d)) = true := by
  simp [vld]; omega

set_option maxRecDepth 100000 in
set_option maxHeartbeats 8000000 in
theorem points_n1 (a b c d t u : Int) (h1 : (vld a b && decide (a ≤ t) && decide (t ≤ b)) = false) (w : World) (hr : Ready w) :
    Calls Tryd.prog 9 #[iv a b, iv c d, .agg #[.int .i64 t, .int .i64 u]] w fun e w' => e = .returned (.bool true) ∧ Below w.heap.size w w' := by
  have H1 := Lib.hid h1
  clear h1
  go_enter Tryd.func9, Tryd.ntmps9
  go_wp2_with fail
  have b1 := ba w (.cells #[.int .i64 a, .int .i64 b] 23)
  have b2 := ba (w.alloc (.cells #[.int .i64 a, .int .i64 b] 23)) (.cells #[.int .i64 c, .int .i64 d] 23)
  have b3 := ba ((w.alloc (.cells #[.int .i64 a, .int .i64 b] 23)).alloc (.cells #[.int .i64 c, .int .i64 d] 23)) (.cells #[.int .i64 t, .int .i64 u] 39)
  have K : K2 w w.heap.size (w.heap.size + 1) a b c d (((w.alloc (.cells #[.int .i64 a, .int .i64 b] 23)).alloc (.cells #[.int .i64 c, .int .i64 d] 23)).alloc (.cells #[.int .i64 t, .int .i64 u] 39)) := ⟨((hr.below b1).below b2).below b3, bt (bt b1 b2) b3, ((Two.new w a b).next b2).next b3, (Two.at _ _ c d (by simp)).next b3⟩
  have X : Two (w.heap.size + 1 + 1) t u (((w.alloc (.cells #[.int .i64 a, .int .i64 b] 23)).alloc (.cells #[.int .i64 c, .int .i64 d] 23)).alloc (.cells #[.int .i64 t, .int .i64 u] 39)) := by refine ⟨by simp, ?_, ?_⟩ <;> go_simp
  clear b1 b2 b3 hr
  generalize w.heap.size + 1 + 1 = C at *
  generalize w.heap.size + 1 = B at *
  generalize w.heap.size = A at *
  generalize ((w.alloc (.cells #[.int .i64 a, .int .i64 b] 23)).alloc (.cells #[.int .i64 c, .int .i64 d] 23)).alloc (.cells #[.int .i64 t, .int .i64 u] 39) = W at *
  replace K := K.next W.drewB
  obtain ⟨_, Xp, Xq⟩ := X
  go_region_held3 (fun w' => w'.cell? ⟨C, 0, none⟩ = some (.int .i64 t) ∧ w'.cell? ⟨C, 1, none⟩ = some (.int .i64 u)) (first | exact ⟨Xp, Xq⟩ | go_keep) (fail)
  clear Xp Xq
  obtain ⟨_, _, ⟨al, ap, aq⟩, ⟨bl, bp, bq⟩⟩ := id K
  go_wp2_with fail
  refine (examples_c _ K.ready).mono ?_
  rintro e w2 ⟨rfl, hb2⟩
  replace K := K.next hb2
  clear hb2 al ap aq bl bp bq
  obtain ⟨_, _, ⟨al, ap, aq⟩, ⟨bl, bp, bq⟩⟩ := id K
  go_wp2_with fail
  refine (has_c _ _ _ _).mono ?_
  rintro e w3 ⟨rfl, hb3⟩
  replace K := K.next hb3
  clear hb3 al ap aq bl bp bq
  obtain ⟨_, _, ⟨al, ap, aq⟩, ⟨bl, bp, bq⟩⟩ := id K
  rw [H1.out]
  go_wp2_with fail
  refine (examples_c _ K.ready).mono ?_
  rintro e w5 ⟨rfl, hb5⟩
  replace K := K.next hb5
  clear hb5 al ap aq bl bp bq
  obtain ⟨_, _, ⟨al, ap, aq⟩, ⟨bl, bp, bq⟩⟩ := id K
  go_wp2_with fail
  go_ret
  exact ⟨rfl, K.below⟩
set_option maxRecDepth 100000 in
set_option maxHeartbeats 8000000 in
theorem points_n2 (a b c d t u : Int) (h1 : (vld a b && decide (a ≤ t) && decide (t ≤ b)) = true) (h2 : (vld c d && decide (c ≤ u) && decide (u ≤ d)) = false) (w : World) (hr : Ready w) :
    Calls Tryd.prog 9 #[iv a b, iv c d, .agg #[.int .i64 t, .int .i64 u]] w fun e w' => e = .returned (.bool true) ∧ Below w.heap.size w w' := by
  have H1 := Lib.hid h1
  clear h1
  have H2 := Lib.hid h2
  clear h2
  go_enter Tryd.func9, Tryd.ntmps9
  go_wp2_with fail
  have b1 := ba w (.cells #[.int .i64 a, .int .i64 b] 23)
  have b2 := ba (w.alloc (.cells #[.int .i64 a, .int .i64 b] 23)) (.cells #[.int .i64 c, .int .i64 d] 23)
  have b3 := ba ((w.alloc (.cells #[.int .i64 a, .int .i64 b] 23)).alloc (.cells #[.int .i64 c, .int .i64 d] 23)) (.cells #[.int .i64 t, .int .i64 u] 39)
  have K : K2 w w.heap.size (w.heap.size + 1) a b c d (((w.alloc (.cells #[.int .i64 a, .int .i64 b] 23)).alloc (.cells #[.int .i64 c, .int .i64 d] 23)).alloc (.cells #[.int .i64 t, .int .i64 u] 39)) := ⟨((hr.below b1).below b2).below b3, bt (bt b1 b2) b3, ((Two.new w a b).next b2).next b3, (Two.at _ _ c d (by simp)).next b3⟩
  have X : Two (w.heap.size + 1 + 1) t u (((w.alloc (.cells #[.int .i64 a, .int .i64 b] 23)).alloc (.cells #[.int .i64 c, .int .i64 d] 23)).alloc (.cells #[.int .i64 t, .int .i64 u] 39)) := by refine ⟨by simp, ?_, ?_⟩ <;> go_simp
  clear b1 b2 b3 hr
  generalize w.heap.size + 1 + 1 = C at *
  generalize w.heap.size + 1 = B at *
  generalize w.heap.size = A at *
  generalize ((w.alloc (.cells #[.int .i64 a, .int .i64 b] 23)).alloc (.cells #[.int .i64 c, .int .i64 d] 23)).alloc (.cells #[.int .i64 t, .int .i64 u] 39) = W at *
  replace K := K.next W.drewB
  obtain ⟨_, Xp, Xq⟩ := X
  go_region_held3 (fun w' => w'.cell? ⟨C, 0, none⟩ = some (.int .i64 t) ∧ w'.cell? ⟨C, 1, none⟩ = some (.int .i64 u)) (first | exact ⟨Xp, Xq⟩ | go_keep) (fail)
  clear Xp Xq
  obtain ⟨_, _, ⟨al, ap, aq⟩, ⟨bl, bp, bq⟩⟩ := id K
  go_wp2_with fail
  refine (examples_c _ K.ready).mono ?_
  rintro e w2 ⟨rfl, hb2⟩
  replace K := K.next hb2
  clear hb2 al ap aq bl bp bq
  obtain ⟨_, _, ⟨al, ap, aq⟩, ⟨bl, bp, bq⟩⟩ := id K
  go_wp2_with fail
  refine (has_c _ _ _ _).mono ?_
  rintro e w3 ⟨rfl, hb3⟩
  replace K := K.next hb3
  clear hb3 al ap aq bl bp bq
  obtain ⟨_, _, ⟨al, ap, aq⟩, ⟨bl, bp, bq⟩⟩ := id K
  rw [H1.out]
  go_wp2_with fail
  refine (has_c _ _ _ _).mono ?_
  rintro e w4 ⟨rfl, hb4⟩
  replace K := K.next hb4
  clear hb4 al ap aq bl bp bq
  obtain ⟨_, _, ⟨al, ap, aq⟩, ⟨bl, bp, bq⟩⟩ := id K
  rw [H2.out]
  go_wp2_with fail
  refine (examples_c _ K.ready).mono ?_
  rintro e w5 ⟨rfl, hb5⟩
  replace K := K.next hb5
  clear hb5 al ap aq bl bp bq
  obtain ⟨_, _, ⟨al, ap, aq⟩, ⟨bl, bp, bq⟩⟩ := id K
  go_wp2_with fail
  go_ret
  exact ⟨rfl, K.below⟩
set_option maxRecDepth 100000 in
set_option maxHeartbeats 16000000 in
theorem points_1 (a b c d t u : Int) (htu : t < u) (hbc : b < c) (had : a < d) (h1 : (vld a b && decide (a ≤ t) && decide (t ≤ b)) = true) (h2 : (vld c d && decide (c ≤ u) && decide (u ≤ d)) = true) (w : World) (hr : Ready w) :
    Calls Tryd.prog 9 #[iv a b, iv c d, .agg #[.int .i64 t, .int .i64 u]] w fun e w' => e = .returned (.bool true) ∧ Below w.heap.size w w' := by
  have g1 : vld a b = true ∧ a ≤ t ∧ t ≤ b := by simpa [and_assoc] using h1
  have g2 : vld c d = true ∧ c ≤ u ∧ u ≤ d := by simpa [and_assoc] using h2
  obtain ⟨v1, t0, t1⟩ := g1
  obtain ⟨v2, u0, u1⟩ := g2
  obtain ⟨a0, a1, a2⟩ := vld_iff.1 v1
  obtain ⟨c0, c1, c2⟩ := vld_iff.1 v2
  have E1 := Lib.hid (hs_sum a0 a1 a2 c0 c1 c2 t0 t1 u0 u1)
  have E3 := Lib.hid (hs_hull a0 a1 a2 c0 c1 c2 (Int.le_trans (Int.min_le_left a c) t0) (Int.le_trans t1 (Int.le_max_left b d)))
  have E4 := Lib.hid (hs_hull (t := u) a0 a1 a2 c0 c1 c2 (Int.le_trans (Int.min_le_right a c) u0) (Int.le_trans u1 (Int.le_max_right b d)))
  have H1 := Lib.hid h1
  have H2 := Lib.hid h2
  have V1 := Lib.hid v1
  have V2 := Lib.hid v2
  clear h1 h2 v1 v2
  go_enter Tryd.func9, Tryd.ntmps9
  go_wp2_with fail
  have b1 := ba w (.cells #[.int .i64 a, .int .i64 b] 23)
  have b2 := ba (w.alloc (.cells #[.int .i64 a, .int .i64 b] 23)) (.cells #[.int .i64 c, .int .i64 d] 23)
  have b3 := ba ((w.alloc (.cells #[.int .i64 a, .int .i64 b] 23)).alloc (.cells #[.int .i64 c, .int .i64 d] 23)) (.cells #[.int .i64 t, .int .i64 u] 39)
  have K : K2 w w.heap.size (w.heap.size + 1) a b c d (((w.alloc (.cells #[.int .i64 a, .int .i64 b] 23)).alloc (.cells #[.int .i64 c, .int .i64 d] 23)).alloc (.cells #[.int .i64 t, .int .i64 u] 39)) := ⟨((hr.below b1).below b2).below b3, bt (bt b1 b2) b3, ((Two.new w a b).next b2).next b3, (Two.at _ _ c d (by simp)).next b3⟩
  have X : Two (w.heap.size + 1 + 1) t u (((w.alloc (.cells #[.int .i64 a, .int .i64 b] 23)).alloc (.cells #[.int .i64 c, .int .i64 d] 23)).alloc (.cells #[.int .i64 t, .int .i64 u] 39)) := by refine ⟨by simp, ?_, ?_⟩ <;> go_simp
  clear b1 b2 b3 hr
  generalize w.heap.size + 1 + 1 = C at *
  generalize w.heap.size + 1 = B at *
  generalize w.heap.size = A at *
  generalize ((w.alloc (.cells #[.int .i64 a, .int .i64 b] 23)).alloc (.cells #[.int .i64 c, .int .i64 d] 23)).alloc (.cells #[.int .i64 t, .int .i64 u] 39) = W at *
  replace K := K.next W.drewB
  obtain ⟨_, Xp, Xq⟩ := X
  go_region_held3 (fun w' => w'.cell? ⟨C, 0, none⟩ = some (.int .i64 t) ∧ w'.cell? ⟨C, 1, none⟩ = some (.int .i64 u)) (first | exact ⟨Xp, Xq⟩ | go_keep) (fail)
  clear Xp Xq
  obtain ⟨_, _, ⟨al, ap, aq⟩, ⟨bl, bp, bq⟩⟩ := id K
  go_wp2_with fail
  refine (examples_c _ K.ready).mono ?_
  rintro e w2 ⟨rfl, hb2⟩
  replace K := K.next hb2
  clear hb2 al ap aq bl bp bq
  obtain ⟨_, _, ⟨al, ap, aq⟩, ⟨bl, bp, bq⟩⟩ := id K
  go_wp2_with fail
  refine (has_c _ _ _ _).mono ?_
  rintro e w3 ⟨rfl, hb3⟩
  replace K := K.next hb3
  clear hb3 al ap aq bl bp bq
  obtain ⟨_, _, ⟨al, ap, aq⟩, ⟨bl, bp, bq⟩⟩ := id K
  rw [H1.out]
  go_wp2_with fail
  refine (has_c _ _ _ _).mono ?_
  rintro e w4 ⟨rfl, hb4⟩
  replace K := K.next hb4
  clear hb4 al ap aq bl bp bq
  obtain ⟨_, _, ⟨al, ap, aq⟩, ⟨bl, bp, bq⟩⟩ := id K
  rw [H2.out]
  go_wp2_with fail
  refine (add_c a b c d _ V1.out V2.out).mono ?_
  rintro e w5 ⟨rfl, hb5⟩
  replace K := K.next hb5
  clear hb5 al ap aq bl bp bq
  have b5 := ba w5 (.cells #[.int .i64 (clamp (a + c)), .int .i64 (clamp (b + d))] 23)
  have S := Two.new w5 (clamp (a + c)) (clamp (b + d))
  replace K := K.next b5
  clear b5
  obtain ⟨_, _, ⟨al, ap, aq⟩, ⟨bl, bp, bq⟩⟩ := id K
  obtain ⟨sl, sp, sq⟩ := id S
  go_wp2_with fail
  refine (sub_c a b c d _ V1.out V2.out).mono ?_
  rintro e w6 ⟨rfl, hb6⟩
  replace K := K.next hb6
  replace S := S.next hb6
  clear hb6 al ap aq bl bp bq sl sp sq
  have b6 := ba w6 (.cells #[.int .i64 (clamp (a - d)), .int .i64 (clamp (b - c))] 23)
  have D := Two.new w6 (clamp (a - d)) (clamp (b - c))
  replace K := K.next b6
  replace S := S.next b6
  clear b6
  obtain ⟨_, _, ⟨al, ap, aq⟩, ⟨bl, bp, bq⟩⟩ := id K
  obtain ⟨sl, sp, sq⟩ := id S
  obtain ⟨dl, dp, dq⟩ := id D
  go_wp2_with fail
  refine (hull_c a b c d _ V1.out V2.out).mono ?_
  rintro e w7 ⟨rfl, hb7⟩
  replace K := K.next hb7
  replace S := S.next hb7
  replace D := D.next hb7
  clear hb7 al ap aq bl bp bq sl sp sq dl dp dq
  have b7 := ba w7 (.cells #[.int .i64 (min a c), .int .i64 (max b d)] 23)
  have U := Two.new w7 (min a c) (max b d)
  replace K := K.next b7
  replace S := S.next b7
  replace D := D.next b7
  clear b7
  obtain ⟨_, _, ⟨al, ap, aq⟩, ⟨bl, bp, bq⟩⟩ := id K
  obtain ⟨sl, sp, sq⟩ := id S
  obtain ⟨dl, dp, dq⟩ := id D
  obtain ⟨ul, up, uq⟩ := id U
  go_wp2_with fail
  refine (has_c _ _ _ _).mono ?_
  rintro e w8 ⟨rfl, hb8⟩
  replace K := K.next hb8
  replace S := S.next hb8
  replace D := D.next hb8
  replace U := U.next hb8
  clear hb8 al ap aq bl bp bq sl sp sq dl dp dq ul up uq
  obtain ⟨_, _, ⟨al, ap, aq⟩, ⟨bl, bp, bq⟩⟩ := id K
  obtain ⟨sl, sp, sq⟩ := id S
  obtain ⟨dl, dp, dq⟩ := id D
  obtain ⟨ul, up, uq⟩ := id U
  rw [E1.out]
  go_wp2_with fail
  refine (has_c _ _ _ _).mono ?_
  rintro e w10 ⟨rfl, hb10⟩
  replace K := K.next hb10
  replace S := S.next hb10
  replace D := D.next hb10
  replace U := U.next hb10
  clear hb10 al ap aq bl bp bq sl sp sq dl dp dq ul up uq
  obtain ⟨_, _, ⟨al, ap, aq⟩, ⟨bl, bp, bq⟩⟩ := id K
  obtain ⟨sl, sp, sq⟩ := id S
  obtain ⟨dl, dp, dq⟩ := id D
  obtain ⟨ul, up, uq⟩ := id U
  rw [E3.out]
  go_wp2_with fail
  refine (has_c _ _ _ _).mono ?_
  rintro e w11 ⟨rfl, hb11⟩
  replace K := K.next hb11
  replace S := S.next hb11
  replace D := D.next hb11
  replace U := U.next hb11
  clear hb11 al ap aq bl bp bq sl sp sq dl dp dq ul up uq
  obtain ⟨_, _, ⟨al, ap, aq⟩, ⟨bl, bp, bq⟩⟩ := id K
  obtain ⟨sl, sp, sq⟩ := id S
  obtain ⟨dl, dp, dq⟩ := id D
  obtain ⟨ul, up, uq⟩ := id U
  rw [E4.out]
  go_wp2_with fail
  refine (before_c _ _ _ _ _).mono ?_
  rintro e w12 ⟨rfl, hb12⟩
  replace K := K.next hb12
  replace S := S.next hb12
  replace D := D.next hb12
  replace U := U.next hb12
  clear hb12 al ap aq bl bp bq sl sp sq dl dp dq ul up uq
  obtain ⟨_, _, ⟨al, ap, aq⟩, ⟨bl, bp, bq⟩⟩ := id K
  obtain ⟨sl, sp, sq⟩ := id S
  obtain ⟨dl, dp, dq⟩ := id D
  obtain ⟨ul, up, uq⟩ := id U
  rw [V1.out, V2.out, show (true && true && decide (b < c)) = true by simp; omega]
  go_wp2_with fail
  refine (mayBefore_c _ _ _ _ _).mono ?_
  rintro e w13 ⟨rfl, hb13⟩
  replace K := K.next hb13
  replace S := S.next hb13
  replace D := D.next hb13
  replace U := U.next hb13
  clear hb13 al ap aq bl bp bq sl sp sq dl dp dq ul up uq
  obtain ⟨_, _, ⟨al, ap, aq⟩, ⟨bl, bp, bq⟩⟩ := id K
  obtain ⟨sl, sp, sq⟩ := id S
  obtain ⟨dl, dp, dq⟩ := id D
  obtain ⟨ul, up, uq⟩ := id U
  rw [V1.out, V2.out, show (true && true && decide (a < d)) = true by simp; omega]
  go_wp2_with fail
  go_ret
  exact ⟨rfl, K.below⟩
set_option maxRecDepth 100000 in
set_option maxHeartbeats 16000000 in
theorem points_2 (a b c d t u : Int) (htu : t < u) (hbc : ¬ b < c) (had : a < d) (h1 : (vld a b && decide (a ≤ t) && decide (t ≤ b)) = true) (h2 : (vld c d && decide (c ≤ u) && decide (u ≤ d)) = true) (w : World) (hr : Ready w) :
    Calls Tryd.prog 9 #[iv a b, iv c d, .agg #[.int .i64 t, .int .i64 u]] w fun e w' => e = .returned (.bool true) ∧ Below w.heap.size w w' := by
  have g1 : vld a b = true ∧ a ≤ t ∧ t ≤ b := by simpa [and_assoc] using h1
  have g2 : vld c d = true ∧ c ≤ u ∧ u ≤ d := by simpa [and_assoc] using h2
  obtain ⟨v1, t0, t1⟩ := g1
  obtain ⟨v2, u0, u1⟩ := g2
  obtain ⟨a0, a1, a2⟩ := vld_iff.1 v1
  obtain ⟨c0, c1, c2⟩ := vld_iff.1 v2
  have E1 := Lib.hid (hs_sum a0 a1 a2 c0 c1 c2 t0 t1 u0 u1)
  have E3 := Lib.hid (hs_hull a0 a1 a2 c0 c1 c2 (Int.le_trans (Int.min_le_left a c) t0) (Int.le_trans t1 (Int.le_max_left b d)))
  have E4 := Lib.hid (hs_hull (t := u) a0 a1 a2 c0 c1 c2 (Int.le_trans (Int.min_le_right a c) u0) (Int.le_trans u1 (Int.le_max_right b d)))
  have H1 := Lib.hid h1
  have H2 := Lib.hid h2
  have V1 := Lib.hid v1
  have V2 := Lib.hid v2
  clear h1 h2 v1 v2
  go_enter Tryd.func9, Tryd.ntmps9
  go_wp2_with fail
  have b1 := ba w (.cells #[.int .i64 a, .int .i64 b] 23)
  have b2 := ba (w.alloc (.cells #[.int .i64 a, .int .i64 b] 23)) (.cells #[.int .i64 c, .int .i64 d] 23)
  have b3 := ba ((w.alloc (.cells #[.int .i64 a, .int .i64 b] 23)).alloc (.cells #[.int .i64 c, .int .i64 d] 23)) (.cells #[.int .i64 t, .int .i64 u] 39)
  have K : K2 w w.heap.size (w.heap.size + 1) a b c d (((w.alloc (.cells #[.int .i64 a, .int .i64 b] 23)).alloc (.cells #[.int .i64 c, .int .i64 d] 23)).alloc (.cells #[.int .i64 t, .int .i64 u] 39)) := ⟨((hr.below b1).below b2).below b3, bt (bt b1 b2) b3, ((Two.new w a b).next b2).next b3, (Two.at _ _ c d (by simp)).next b3⟩
  have X : Two (w.heap.size + 1 + 1) t u (((w.alloc (.cells #[.int .i64 a, .int .i64 b] 23)).alloc (.cells #[.int .i64 c, .int .i64 d] 23)).alloc (.cells #[.int .i64 t, .int .i64 u] 39)) := by refine ⟨by simp, ?_, ?_⟩ <;> go_simp
  clear b1 b2 b3 hr
  generalize w.heap.size + 1 + 1 = C at *
  generalize w.heap.size + 1 = B at *
  generalize w.heap.size = A at *
  generalize ((w.alloc (.cells #[.int .i64 a, .int .i64 b] 23)).alloc (.cells #[.int .i64 c, .int .i64 d] 23)).alloc (.cells #[.int .i64 t, .int .i64 u] 39) = W at *
  replace K := K.next W.drewB
  obtain ⟨_, Xp, Xq⟩ := X
  go_region_held3 (fun w' => w'.cell? ⟨C, 0, none⟩ = some (.int .i64 t) ∧ w'.cell? ⟨C, 1, none⟩ = some (.int .i64 u)) (first | exact ⟨Xp, Xq⟩ | go_keep) (fail)
  clear Xp Xq
  obtain ⟨_, _, ⟨al, ap, aq⟩, ⟨bl, bp, bq⟩⟩ := id K
  go_wp2_with fail
  refine (examples_c _ K.ready).mono ?_
  rintro e w2 ⟨rfl, hb2⟩
  replace K := K.next hb2
  clear hb2 al ap aq bl bp bq
  obtain ⟨_, _, ⟨al, ap, aq⟩, ⟨bl, bp, bq⟩⟩ := id K
  go_wp2_with fail
  refine (has_c _ _ _ _).mono ?_
  rintro e w3 ⟨rfl, hb3⟩
  replace K := K.next hb3
  clear hb3 al ap aq bl bp bq
  obtain ⟨_, _, ⟨al, ap, aq⟩, ⟨bl, bp, bq⟩⟩ := id K
  rw [H1.out]
  go_wp2_with fail
  refine (has_c _ _ _ _).mono ?_
  rintro e w4 ⟨rfl, hb4⟩
  replace K := K.next hb4
  clear hb4 al ap aq bl bp bq
  obtain ⟨_, _, ⟨al, ap, aq⟩, ⟨bl, bp, bq⟩⟩ := id K
  rw [H2.out]
  go_wp2_with fail
  refine (add_c a b c d _ V1.out V2.out).mono ?_
  rintro e w5 ⟨rfl, hb5⟩
  replace K := K.next hb5
  clear hb5 al ap aq bl bp bq
  have b5 := ba w5 (.cells #[.int .i64 (clamp (a + c)), .int .i64 (clamp (b + d))] 23)
  have S := Two.new w5 (clamp (a + c)) (clamp (b + d))
  replace K := K.next b5
  clear b5
  obtain ⟨_, _, ⟨al, ap, aq⟩, ⟨bl, bp, bq⟩⟩ := id K
  obtain ⟨sl, sp, sq⟩ := id S
  go_wp2_with fail
  refine (sub_c a b c d _ V1.out V2.out).mono ?_
  rintro e w6 ⟨rfl, hb6⟩
  replace K := K.next hb6
  replace S := S.next hb6
  clear hb6 al ap aq bl bp bq sl sp sq
  have b6 := ba w6 (.cells #[.int .i64 (clamp (a - d)), .int .i64 (clamp (b - c))] 23)
  have D := Two.new w6 (clamp (a - d)) (clamp (b - c))
  replace K := K.next b6
  replace S := S.next b6
  clear b6
  obtain ⟨_, _, ⟨al, ap, aq⟩, ⟨bl, bp, bq⟩⟩ := id K
  obtain ⟨sl, sp, sq⟩ := id S
  obtain ⟨dl, dp, dq⟩ := id D
  go_wp2_with fail
  refine (hull_c a b c d _ V1.out V2.out).mono ?_
  rintro e w7 ⟨rfl, hb7⟩
  replace K := K.next hb7
  replace S := S.next hb7
  replace D := D.next hb7
  clear hb7 al ap aq bl bp bq sl sp sq dl dp dq
  have b7 := ba w7 (.cells #[.int .i64 (min a c), .int .i64 (max b d)] 23)
  have U := Two.new w7 (min a c) (max b d)
  replace K := K.next b7
  replace S := S.next b7
  replace D := D.next b7
  clear b7
  obtain ⟨_, _, ⟨al, ap, aq⟩, ⟨bl, bp, bq⟩⟩ := id K
  obtain ⟨sl, sp, sq⟩ := id S
  obtain ⟨dl, dp, dq⟩ := id D
  obtain ⟨ul, up, uq⟩ := id U
  go_wp2_with fail
  refine (has_c _ _ _ _).mono ?_
  rintro e w8 ⟨rfl, hb8⟩
  replace K := K.next hb8
  replace S := S.next hb8
  replace D := D.next hb8
  replace U := U.next hb8
  clear hb8 al ap aq bl bp bq sl sp sq dl dp dq ul up uq
  obtain ⟨_, _, ⟨al, ap, aq⟩, ⟨bl, bp, bq⟩⟩ := id K
  obtain ⟨sl, sp, sq⟩ := id S
  obtain ⟨dl, dp, dq⟩ := id D
  obtain ⟨ul, up, uq⟩ := id U
  rw [E1.out]
  go_wp2_with fail
  refine (has_c _ _ _ _).mono ?_
  rintro e w10 ⟨rfl, hb10⟩
  replace K := K.next hb10
  replace S := S.next hb10
  replace D := D.next hb10
  replace U := U.next hb10
  clear hb10 al ap aq bl bp bq sl sp sq dl dp dq ul up uq
  obtain ⟨_, _, ⟨al, ap, aq⟩, ⟨bl, bp, bq⟩⟩ := id K
  obtain ⟨sl, sp, sq⟩ := id S
  obtain ⟨dl, dp, dq⟩ := id D
  obtain ⟨ul, up, uq⟩ := id U
  rw [E3.out]
  go_wp2_with fail
  refine (has_c _ _ _ _).mono ?_
  rintro e w11 ⟨rfl, hb11⟩
  replace K := K.next hb11
  replace S := S.next hb11
  replace D := D.next hb11
  replace U := U.next hb11
  clear hb11 al ap aq bl bp bq sl sp sq dl dp dq ul up uq
  obtain ⟨_, _, ⟨al, ap, aq⟩, ⟨bl, bp, bq⟩⟩ := id K
  obtain ⟨sl, sp, sq⟩ := id S
  obtain ⟨dl, dp, dq⟩ := id D
  obtain ⟨ul, up, uq⟩ := id U
  rw [E4.out]
  go_wp2_with fail
  refine (before_c _ _ _ _ _).mono ?_
  rintro e w12 ⟨rfl, hb12⟩
  replace K := K.next hb12
  replace S := S.next hb12
  replace D := D.next hb12
  replace U := U.next hb12
  clear hb12 al ap aq bl bp bq sl sp sq dl dp dq ul up uq
  obtain ⟨_, _, ⟨al, ap, aq⟩, ⟨bl, bp, bq⟩⟩ := id K
  obtain ⟨sl, sp, sq⟩ := id S
  obtain ⟨dl, dp, dq⟩ := id D
  obtain ⟨ul, up, uq⟩ := id U
  rw [V1.out, V2.out, show (true && true && decide (b < c)) = false by simp; omega]
  go_wp2_with fail
  refine (mayBefore_c _ _ _ _ _).mono ?_
  rintro e w13 ⟨rfl, hb13⟩
  replace K := K.next hb13
  replace S := S.next hb13
  replace D := D.next hb13
  replace U := U.next hb13
  clear hb13 al ap aq bl bp bq sl sp sq dl dp dq ul up uq
  obtain ⟨_, _, ⟨al, ap, aq⟩, ⟨bl, bp, bq⟩⟩ := id K
  obtain ⟨sl, sp, sq⟩ := id S
  obtain ⟨dl, dp, dq⟩ := id D
  obtain ⟨ul, up, uq⟩ := id U
  rw [V1.out, V2.out, show (true && true && decide (a < d)) = true by simp; omega]
  go_wp2_with fail
  go_ret
  exact ⟨rfl, K.below⟩
set_option maxRecDepth 100000 in
set_option maxHeartbeats 16000000 in
theorem points_3 (a b c d t u : Int) (htu : ¬ t < u) (hbc : ¬ b < c) (had : a < d) (h1 : (vld a b && decide (a ≤ t) && decide (t ≤ b)) = true) (h2 : (vld c d && decide (c ≤ u) && decide (u ≤ d)) = true) (w : World) (hr : Ready w) :
    Calls Tryd.prog 9 #[iv a b, iv c d, .agg #[.int .i64 t, .int .i64 u]] w fun e w' => e = .returned (.bool true) ∧ Below w.heap.size w w' := by
  have g1 : vld a b = true ∧ a ≤ t ∧ t ≤ b := by simpa [and_assoc] using h1
  have g2 : vld c d = true ∧ c ≤ u ∧ u ≤ d := by simpa [and_assoc] using h2
  obtain ⟨v1, t0, t1⟩ := g1
  obtain ⟨v2, u0, u1⟩ := g2
  obtain ⟨a0, a1, a2⟩ := vld_iff.1 v1
  obtain ⟨c0, c1, c2⟩ := vld_iff.1 v2
  have E1 := Lib.hid (hs_sum a0 a1 a2 c0 c1 c2 t0 t1 u0 u1)
  have E2 := Lib.hid (hs_diff a0 a1 a2 c0 c1 c2 t0 t1 u0 u1 htu)
  have E3 := Lib.hid (hs_hull a0 a1 a2 c0 c1 c2 (Int.le_trans (Int.min_le_left a c) t0) (Int.le_trans t1 (Int.le_max_left b d)))
  have E4 := Lib.hid (hs_hull (t := u) a0 a1 a2 c0 c1 c2 (Int.le_trans (Int.min_le_right a c) u0) (Int.le_trans u1 (Int.le_max_right b d)))
  have H1 := Lib.hid h1
  have H2 := Lib.hid h2
  have V1 := Lib.hid v1
  have V2 := Lib.hid v2
  clear h1 h2 v1 v2
  go_enter Tryd.func9, Tryd.ntmps9
  go_wp2_with fail
  have b1 := ba w (.cells #[.int .i64 a, .int .i64 b] 23)
  have b2 := ba (w.alloc (.cells #[.int .i64 a, .int .i64 b] 23)) (.cells #[.int .i64 c, .int .i64 d] 23)
  have b3 := ba ((w.alloc (.cells #[.int .i64 a, .int .i64 b] 23)).alloc (.cells #[.int .i64 c, .int .i64 d] 23)) (.cells #[.int .i64 t, .int .i64 u] 39)
  have K : K2 w w.heap.size (w.heap.size + 1) a b c d (((w.alloc (.cells #[.int .i64 a, .int .i64 b] 23)).alloc (.cells #[.int .i64 c, .int .i64 d] 23)).alloc (.cells #[.int .i64 t, .int .i64 u] 39)) := ⟨((hr.below b1).below b2).below b3, bt (bt b1 b2) b3, ((Two.new w a b).next b2).next b3, (Two.at _ _ c d (by simp)).next b3⟩
  have X : Two (w.heap.size + 1 + 1) t u (((w.alloc (.cells #[.int .i64 a, .int .i64 b] 23)).alloc (.cells #[.int .i64 c, .int .i64 d] 23)).alloc (.cells #[.int .i64 t, .int .i64 u] 39)) := by refine ⟨by simp, ?_, ?_⟩ <;> go_simp
  clear b1 b2 b3 hr
  generalize w.heap.size + 1 + 1 = C at *
  generalize w.heap.size + 1 = B at *
  generalize w.heap.size = A at *
  generalize ((w.alloc (.cells #[.int .i64 a, .int .i64 b] 23)).alloc (.cells #[.int .i64 c, .int .i64 d] 23)).alloc (.cells #[.int .i64 t, .int .i64 u] 39) = W at *
  replace K := K.next W.drewB
  obtain ⟨_, Xp, Xq⟩ := X
  go_region_held3 (fun w' => w'.cell? ⟨C, 0, none⟩ = some (.int .i64 t) ∧ w'.cell? ⟨C, 1, none⟩ = some (.int .i64 u)) (first | exact ⟨Xp, Xq⟩ | go_keep) (fail)
  clear Xp Xq
  obtain ⟨_, _, ⟨al, ap, aq⟩, ⟨bl, bp, bq⟩⟩ := id K
  go_wp2_with fail
  refine (examples_c _ K.ready).mono ?_
  rintro e w2 ⟨rfl, hb2⟩
  replace K := K.next hb2
  clear hb2 al ap aq bl bp bq
  obtain ⟨_, _, ⟨al, ap, aq⟩, ⟨bl, bp, bq⟩⟩ := id K
  go_wp2_with fail
  refine (has_c _ _ _ _).mono ?_
  rintro e w3 ⟨rfl, hb3⟩
  replace K := K.next hb3
  clear hb3 al ap aq bl bp bq
  obtain ⟨_, _, ⟨al, ap, aq⟩, ⟨bl, bp, bq⟩⟩ := id K
  rw [H1.out]
  go_wp2_with fail
  refine (has_c _ _ _ _).mono ?_
  rintro e w4 ⟨rfl, hb4⟩
  replace K := K.next hb4
  clear hb4 al ap aq bl bp bq
  obtain ⟨_, _, ⟨al, ap, aq⟩, ⟨bl, bp, bq⟩⟩ := id K
  rw [H2.out]
  go_wp2_with fail
  refine (add_c a b c d _ V1.out V2.out).mono ?_
  rintro e w5 ⟨rfl, hb5⟩
  replace K := K.next hb5
  clear hb5 al ap aq bl bp bq
  have b5 := ba w5 (.cells #[.int .i64 (clamp (a + c)), .int .i64 (clamp (b + d))] 23)
  have S := Two.new w5 (clamp (a + c)) (clamp (b + d))
  replace K := K.next b5
  clear b5
  obtain ⟨_, _, ⟨al, ap, aq⟩, ⟨bl, bp, bq⟩⟩ := id K
  obtain ⟨sl, sp, sq⟩ := id S
  go_wp2_with fail
  refine (sub_c a b c d _ V1.out V2.out).mono ?_
  rintro e w6 ⟨rfl, hb6⟩
  replace K := K.next hb6
  replace S := S.next hb6
  clear hb6 al ap aq bl bp bq sl sp sq
  have b6 := ba w6 (.cells #[.int .i64 (clamp (a - d)), .int .i64 (clamp (b - c))] 23)
  have D := Two.new w6 (clamp (a - d)) (clamp (b - c))
  replace K := K.next b6
  replace S := S.next b6
  clear b6
  obtain ⟨_, _, ⟨al, ap, aq⟩, ⟨bl, bp, bq⟩⟩ := id K
  obtain ⟨sl, sp, sq⟩ := id S
  obtain ⟨dl, dp, dq⟩ := id D
  go_wp2_with fail
  refine (hull_c a b c d _ V1.out V2.out).mono ?_
  rintro e w7 ⟨rfl, hb7⟩
  replace K := K.next hb7
  replace S := S.next hb7
  replace D := D.next hb7
  clear hb7 al ap aq bl bp bq sl sp sq dl dp dq
  have b7 := ba w7 (.cells #[.int .i64 (min a c), .int .i64 (max b d)] 23)
  have U := Two.new w7 (min a c) (max b d)
  replace K := K.next b7
  replace S := S.next b7
  replace D := D.next b7
  clear b7
  obtain ⟨_, _, ⟨al, ap, aq⟩, ⟨bl, bp, bq⟩⟩ := id K
  obtain ⟨sl, sp, sq⟩ := id S
  obtain ⟨dl, dp, dq⟩ := id D
  obtain ⟨ul, up, uq⟩ := id U
  go_wp2_with fail
  refine (has_c _ _ _ _).mono ?_
  rintro e w8 ⟨rfl, hb8⟩
  replace K := K.next hb8
  replace S := S.next hb8
  replace D := D.next hb8
  replace U := U.next hb8
  clear hb8 al ap aq bl bp bq sl sp sq dl dp dq ul up uq
  obtain ⟨_, _, ⟨al, ap, aq⟩, ⟨bl, bp, bq⟩⟩ := id K
  obtain ⟨sl, sp, sq⟩ := id S
  obtain ⟨dl, dp, dq⟩ := id D
  obtain ⟨ul, up, uq⟩ := id U
  rw [E1.out]
  go_wp2_with fail
  refine (has_c _ _ _ _).mono ?_
  rintro e w9 ⟨rfl, hb9⟩
  replace K := K.next hb9
  replace S := S.next hb9
  replace D := D.next hb9
  replace U := U.next hb9
  clear hb9 al ap aq bl bp bq sl sp sq dl dp dq ul up uq
  obtain ⟨_, _, ⟨al, ap, aq⟩, ⟨bl, bp, bq⟩⟩ := id K
  obtain ⟨sl, sp, sq⟩ := id S
  obtain ⟨dl, dp, dq⟩ := id D
  obtain ⟨ul, up, uq⟩ := id U
  rw [E2.out]
  go_wp2_with fail
  refine (has_c _ _ _ _).mono ?_
  rintro e w10 ⟨rfl, hb10⟩
  replace K := K.next hb10
  replace S := S.next hb10
  replace D := D.next hb10
  replace U := U.next hb10
  clear hb10 al ap aq bl bp bq sl sp sq dl dp dq ul up uq
  obtain ⟨_, _, ⟨al, ap, aq⟩, ⟨bl, bp, bq⟩⟩ := id K
  obtain ⟨sl, sp, sq⟩ := id S
  obtain ⟨dl, dp, dq⟩ := id D
  obtain ⟨ul, up, uq⟩ := id U
  rw [E3.out]
  go_wp2_with fail
  refine (has_c _ _ _ _).mono ?_
  rintro e w11 ⟨rfl, hb11⟩
  replace K := K.next hb11
  replace S := S.next hb11
  replace D := D.next hb11
  replace U := U.next hb11
  clear hb11 al ap aq bl bp bq sl sp sq dl dp dq ul up uq
  obtain ⟨_, _, ⟨al, ap, aq⟩, ⟨bl, bp, bq⟩⟩ := id K
  obtain ⟨sl, sp, sq⟩ := id S
  obtain ⟨dl, dp, dq⟩ := id D
  obtain ⟨ul, up, uq⟩ := id U
  rw [E4.out]
  go_wp2_with fail
  refine (before_c _ _ _ _ _).mono ?_
  rintro e w12 ⟨rfl, hb12⟩
  replace K := K.next hb12
  replace S := S.next hb12
  replace D := D.next hb12
  replace U := U.next hb12
  clear hb12 al ap aq bl bp bq sl sp sq dl dp dq ul up uq
  obtain ⟨_, _, ⟨al, ap, aq⟩, ⟨bl, bp, bq⟩⟩ := id K
  obtain ⟨sl, sp, sq⟩ := id S
  obtain ⟨dl, dp, dq⟩ := id D
  obtain ⟨ul, up, uq⟩ := id U
  rw [V1.out, V2.out, show (true && true && decide (b < c)) = false by simp; omega]
  go_wp2_with fail
  refine (mayBefore_c _ _ _ _ _).mono ?_
  rintro e w13 ⟨rfl, hb13⟩
  replace K := K.next hb13
  replace S := S.next hb13
  replace D := D.next hb13
  replace U := U.next hb13
  clear hb13 al ap aq bl bp bq sl sp sq dl dp dq ul up uq
  obtain ⟨_, _, ⟨al, ap, aq⟩, ⟨bl, bp, bq⟩⟩ := id K
  obtain ⟨sl, sp, sq⟩ := id S
  obtain ⟨dl, dp, dq⟩ := id D
  obtain ⟨ul, up, uq⟩ := id U
  rw [V1.out, V2.out, show (true && true && decide (a < d)) = true by simp; omega]
  go_wp2_with fail
  go_ret
  exact ⟨rfl, K.below⟩
set_option maxRecDepth 100000 in
set_option maxHeartbeats 16000000 in
theorem points_4 (a b c d t u : Int) (htu : ¬ t < u) (hbc : ¬ b < c) (had : ¬ a < d) (h1 : (vld a b && decide (a ≤ t) && decide (t ≤ b)) = true) (h2 : (vld c d && decide (c ≤ u) && decide (u ≤ d)) = true) (w : World) (hr : Ready w) :
    Calls Tryd.prog 9 #[iv a b, iv c d, .agg #[.int .i64 t, .int .i64 u]] w fun e w' => e = .returned (.bool true) ∧ Below w.heap.size w w' := by
  have g1 : vld a b = true ∧ a ≤ t ∧ t ≤ b := by simpa [and_assoc] using h1
  have g2 : vld c d = true ∧ c ≤ u ∧ u ≤ d := by simpa [and_assoc] using h2
  obtain ⟨v1, t0, t1⟩ := g1
  obtain ⟨v2, u0, u1⟩ := g2
  obtain ⟨a0, a1, a2⟩ := vld_iff.1 v1
  obtain ⟨c0, c1, c2⟩ := vld_iff.1 v2
  have E1 := Lib.hid (hs_sum a0 a1 a2 c0 c1 c2 t0 t1 u0 u1)
  have E2 := Lib.hid (hs_diff a0 a1 a2 c0 c1 c2 t0 t1 u0 u1 htu)
  have E3 := Lib.hid (hs_hull a0 a1 a2 c0 c1 c2 (Int.le_trans (Int.min_le_left a c) t0) (Int.le_trans t1 (Int.le_max_left b d)))
  have E4 := Lib.hid (hs_hull (t := u) a0 a1 a2 c0 c1 c2 (Int.le_trans (Int.min_le_right a c) u0) (Int.le_trans u1 (Int.le_max_right b d)))
  have H1 := Lib.hid h1
  have H2 := Lib.hid h2
  have V1 := Lib.hid v1
  have V2 := Lib.hid v2
  clear h1 h2 v1 v2
  go_enter Tryd.func9, Tryd.ntmps9
  go_wp2_with fail
  have b1 := ba w (.cells #[.int .i64 a, .int .i64 b] 23)
  have b2 := ba (w.alloc (.cells #[.int .i64 a, .int .i64 b] 23)) (.cells #[.int .i64 c, .int .i64 d] 23)
  have b3 := ba ((w.alloc (.cells #[.int .i64 a, .int .i64 b] 23)).alloc (.cells #[.int .i64 c, .int .i64 d] 23)) (.cells #[.int .i64 t, .int .i64 u] 39)
  have K : K2 w w.heap.size (w.heap.size + 1) a b c d (((w.alloc (.cells #[.int .i64 a, .int .i64 b] 23)).alloc (.cells #[.int .i64 c, .int .i64 d] 23)).alloc (.cells #[.int .i64 t, .int .i64 u] 39)) := ⟨((hr.below b1).below b2).below b3, bt (bt b1 b2) b3, ((Two.new w a b).next b2).next b3, (Two.at _ _ c d (by simp)).next b3⟩
  have X : Two (w.heap.size + 1 + 1) t u (((w.alloc (.cells #[.int .i64 a, .int .i64 b] 23)).alloc (.cells #[.int .i64 c, .int .i64 d] 23)).alloc (.cells #[.int .i64 t, .int .i64 u] 39)) := by refine ⟨by simp, ?_, ?_⟩ <;> go_simp
  clear b1 b2 b3 hr
  generalize w.heap.size + 1 + 1 = C at *
  generalize w.heap.size + 1 = B at *
  generalize w.heap.size = A at *
  generalize ((w.alloc (.cells #[.int .i64 a, .int .i64 b] 23)).alloc (.cells #[.int .i64 c, .int .i64 d] 23)).alloc (.cells #[.int .i64 t, .int .i64 u] 39) = W at *
  replace K := K.next W.drewB
  obtain ⟨_, Xp, Xq⟩ := X
  go_region_held3 (fun w' => w'.cell? ⟨C, 0, none⟩ = some (.int .i64 t) ∧ w'.cell? ⟨C, 1, none⟩ = some (.int .i64 u)) (first | exact ⟨Xp, Xq⟩ | go_keep) (fail)
  clear Xp Xq
  obtain ⟨_, _, ⟨al, ap, aq⟩, ⟨bl, bp, bq⟩⟩ := id K
  go_wp2_with fail
  refine (examples_c _ K.ready).mono ?_
  rintro e w2 ⟨rfl, hb2⟩
  replace K := K.next hb2
  clear hb2 al ap aq bl bp bq
  obtain ⟨_, _, ⟨al, ap, aq⟩, ⟨bl, bp, bq⟩⟩ := id K
  go_wp2_with fail
  refine (has_c _ _ _ _).mono ?_
  rintro e w3 ⟨rfl, hb3⟩
  replace K := K.next hb3
  clear hb3 al ap aq bl bp bq
  obtain ⟨_, _, ⟨al, ap, aq⟩, ⟨bl, bp, bq⟩⟩ := id K
  rw [H1.out]
  go_wp2_with fail
  refine (has_c _ _ _ _).mono ?_
  rintro e w4 ⟨rfl, hb4⟩
  replace K := K.next hb4
  clear hb4 al ap aq bl bp bq
  obtain ⟨_, _, ⟨al, ap, aq⟩, ⟨bl, bp, bq⟩⟩ := id K
  rw [H2.out]
  go_wp2_with fail
  refine (add_c a b c d _ V1.out V2.out).mono ?_
  rintro e w5 ⟨rfl, hb5⟩
  replace K := K.next hb5
  clear hb5 al ap aq bl bp bq
  have b5 := ba w5 (.cells #[.int .i64 (clamp (a + c)), .int .i64 (clamp (b + d))] 23)
  have S := Two.new w5 (clamp (a + c)) (clamp (b + d))
  replace K := K.next b5
  clear b5
  obtain ⟨_, _, ⟨al, ap, aq⟩, ⟨bl, bp, bq⟩⟩ := id K
  obtain ⟨sl, sp, sq⟩ := id S
  go_wp2_with fail
  refine (sub_c a b c d _ V1.out V2.out).mono ?_
  rintro e w6 ⟨rfl, hb6⟩
  replace K := K.next hb6
  replace S := S.next hb6
  clear hb6 al ap aq bl bp bq sl sp sq
  have b6 := ba w6 (.cells #[.int .i64 (clamp (a - d)), .int .i64 (clamp (b - c))] 23)
  have D := Two.new w6 (clamp (a - d)) (clamp (b - c))
  replace K := K.next b6
  replace S := S.next b6
  clear b6
  obtain ⟨_, _, ⟨al, ap, aq⟩, ⟨bl, bp, bq⟩⟩ := id K
  obtain ⟨sl, sp, sq⟩ := id S
  obtain ⟨dl, dp, dq⟩ := id D
  go_wp2_with fail
  refine (hull_c a b c d _ V1.out V2.out).mono ?_
  rintro e w7 ⟨rfl, hb7⟩
  replace K := K.next hb7
  replace S := S.next hb7
  replace D := D.next hb7
  clear hb7 al ap aq bl bp bq sl sp sq dl dp dq
  have b7 := ba w7 (.cells #[.int .i64 (min a c), .int .i64 (max b d)] 23)
  have U := Two.new w7 (min a c) (max b d)
  replace K := K.next b7
  replace S := S.next b7
  replace D := D.next b7
  clear b7
  obtain ⟨_, _, ⟨al, ap, aq⟩, ⟨bl, bp, bq⟩⟩ := id K
  obtain ⟨sl, sp, sq⟩ := id S
  obtain ⟨dl, dp, dq⟩ := id D
  obtain ⟨ul, up, uq⟩ := id U
  go_wp2_with fail
  refine (has_c _ _ _ _).mono ?_
  rintro e w8 ⟨rfl, hb8⟩
  replace K := K.next hb8
  replace S := S.next hb8
  replace D := D.next hb8
  replace U := U.next hb8
  clear hb8 al ap aq bl bp bq sl sp sq dl dp dq ul up uq
  obtain ⟨_, _, ⟨al, ap, aq⟩, ⟨bl, bp, bq⟩⟩ := id K
  obtain ⟨sl, sp, sq⟩ := id S
  obtain ⟨dl, dp, dq⟩ := id D
  obtain ⟨ul, up, uq⟩ := id U
  rw [E1.out]
  go_wp2_with fail
  refine (has_c _ _ _ _).mono ?_
  rintro e w9 ⟨rfl, hb9⟩
  replace K := K.next hb9
  replace S := S.next hb9
  replace D := D.next hb9
  replace U := U.next hb9
  clear hb9 al ap aq bl bp bq sl sp sq dl dp dq ul up uq
  obtain ⟨_, _, ⟨al, ap, aq⟩, ⟨bl, bp, bq⟩⟩ := id K
  obtain ⟨sl, sp, sq⟩ := id S
  obtain ⟨dl, dp, dq⟩ := id D
  obtain ⟨ul, up, uq⟩ := id U
  rw [E2.out]
  go_wp2_with fail
  refine (has_c _ _ _ _).mono ?_
  rintro e w10 ⟨rfl, hb10⟩
  replace K := K.next hb10
  replace S := S.next hb10
  replace D := D.next hb10
  replace U := U.next hb10
  clear hb10 al ap aq bl bp bq sl sp sq dl dp dq ul up uq
  obtain ⟨_, _, ⟨al, ap, aq⟩, ⟨bl, bp, bq⟩⟩ := id K
  obtain ⟨sl, sp, sq⟩ := id S
  obtain ⟨dl, dp, dq⟩ := id D
  obtain ⟨ul, up, uq⟩ := id U
  rw [E3.out]
  go_wp2_with fail
  refine (has_c _ _ _ _).mono ?_
  rintro e w11 ⟨rfl, hb11⟩
  replace K := K.next hb11
  replace S := S.next hb11
  replace D := D.next hb11
  replace U := U.next hb11
  clear hb11 al ap aq bl bp bq sl sp sq dl dp dq ul up uq
  obtain ⟨_, _, ⟨al, ap, aq⟩, ⟨bl, bp, bq⟩⟩ := id K
  obtain ⟨sl, sp, sq⟩ := id S
  obtain ⟨dl, dp, dq⟩ := id D
  obtain ⟨ul, up, uq⟩ := id U
  rw [E4.out]
  go_wp2_with fail
  refine (before_c _ _ _ _ _).mono ?_
  rintro e w12 ⟨rfl, hb12⟩
  replace K := K.next hb12
  replace S := S.next hb12
  replace D := D.next hb12
  replace U := U.next hb12
  clear hb12 al ap aq bl bp bq sl sp sq dl dp dq ul up uq
  obtain ⟨_, _, ⟨al, ap, aq⟩, ⟨bl, bp, bq⟩⟩ := id K
  obtain ⟨sl, sp, sq⟩ := id S
  obtain ⟨dl, dp, dq⟩ := id D
  obtain ⟨ul, up, uq⟩ := id U
  rw [V1.out, V2.out, show (true && true && decide (b < c)) = false by simp; omega]
  go_wp2_with fail
  refine (mayBefore_c _ _ _ _ _).mono ?_
  rintro e w13 ⟨rfl, hb13⟩
  replace K := K.next hb13
  replace S := S.next hb13
  replace D := D.next hb13
  replace U := U.next hb13
  clear hb13 al ap aq bl bp bq sl sp sq dl dp dq ul up uq
  obtain ⟨_, _, ⟨al, ap, aq⟩, ⟨bl, bp, bq⟩⟩ := id K
  obtain ⟨sl, sp, sq⟩ := id S
  obtain ⟨dl, dp, dq⟩ := id D
  obtain ⟨ul, up, uq⟩ := id U
  rw [V1.out, V2.out, show (true && true && decide (a < d)) = false by simp; omega]
  go_wp2_with fail
  go_ret
  exact ⟨rfl, K.below⟩
theorem points_w (a b c d t u : Int) (w : World) (hr : Ready w) :
    Calls Tryd.prog 9 #[iv a b, iv c d, .agg #[.int .i64 t, .int .i64 u]] w fun e w' => e = .returned (.bool true) ∧ Below w.heap.size w w' := by
  cases h1 : (vld a b && decide (a ≤ t) && decide (t ≤ b))
  · exact points_n1 a b c d t u h1 w hr
  · cases h2 : (vld c d && decide (c ≤ u) && decide (u ≤ d))
    · exact points_n2 a b c d t u h1 h2 w hr
    · have g1 : vld a b = true ∧ a ≤ t ∧ t ≤ b := by simpa [and_assoc] using h1
      have g2 : vld c d = true ∧ c ≤ u ∧ u ≤ d := by simpa [and_assoc] using h2
      by_cases htu : t < u
      · by_cases hbc : b < c
        · exact points_1 a b c d t u htu hbc (by omega) h1 h2 w hr
        · exact points_2 a b c d t u htu hbc (by omega) h1 h2 w hr
      · by_cases had : a < d
        · exact points_3 a b c d t u htu (by omega) had h1 h2 w hr
        · exact points_4 a b c d t u htu (by omega) had h1 h2 w hr
end Go.Proofs.YtmihogccpgdpaaaDoor
