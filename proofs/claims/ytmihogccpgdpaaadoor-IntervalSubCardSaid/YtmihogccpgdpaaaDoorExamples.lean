/-
  The fixed examples that each law of this layer checks first: they hold.
-/
import Derived.Test.YtmihogccpgdpaaaDoorParse
import Derived.Laws.StructEq
import Derived.Laws.Tables
namespace Go.Proofs.YtmihogccpgdpaaaDoor
open Go.RowKit

@[go_sem] theorem eq23 (a b c d : Int) (w : World) : (Op.equalIn 10000 23 (.agg #[.int .i64 a, .int .i64 b]) (.agg #[.int .i64 c, .int .i64 d])).run Tryd.prog w = .ok (a == c && b == d) w := by
  have u3 := Tryd.underlying2
  have a3 := Tryd.isAgg2
  have z3 := Tryd.sizeOf2
  have hS : Tryd.prog.underlying 23 = some (.struct (Tryd.prog.fieldsOf 23)) := by kernel_rfl
  have hp : Tryd.prog.stoodInHeld 23 = false := by kernel_rfl
  rw [show (10000 : Nat) = 9999 + 1 from rfl, run_equalIn_agg w 9999 23 _ _ hS hp]
  simp only [Program.fieldsOf, Tryd.underlying23]
  go_simp
  by_cases h1 : a = c <;> by_cases h2 : b = d <;> simp [h1, h2]

/-- a block of two numbers -/
structure Two (B : Nat) (x y : Int) (W : World) : Prop where
  lt : B < W.heap.size
  p : W.cell? ⟨B, 0, none⟩ = some (.int .i64 x)
  q : W.cell? ⟨B, 1, none⟩ = some (.int .i64 y)
theorem Two.next {B : Nat} {x y : Int} {W W' : World} (h : Two B x y W) (hb : Below W.heap.size W W') : Two B x y W' := by
  obtain ⟨hc, _⟩ := bcell hb
  exact ⟨Nat.lt_of_lt_of_le h.lt hb.size, (hc _ _ h.lt).trans h.p, (hc _ _ h.lt).trans h.q⟩
theorem Two.new (W : World) (x y : Int) : Two W.heap.size x y (W.alloc (.cells #[.int .i64 x, .int .i64 y] 23)) := by
  refine ⟨by simp, ?_, ?_⟩ <;> go_simp

theorem i3 : Lib.itoa 3 = [51] := by rw [Dec.itoa_nonneg (by decide), show (3 : Int).toNat = 3 from rfl, Dec.decDigits_small (by decide)]; rfl
theorem i4 : Lib.itoa 4 = [52] := by rw [Dec.itoa_nonneg (by decide), show (4 : Int).toNat = 4 from rfl, Dec.decDigits_small (by decide)]; rfl
theorem i7 : Lib.itoa 7 = [55] := by rw [Dec.itoa_nonneg (by decide), show (7 : Int).toNat = 7 from rfl, Dec.decDigits_small (by decide)]; rfl
theorem t37 : (⟨#[51, 46, 46, 55]⟩ : ByteArray).data.toList = fmtIv 3 7 := by rw [fmt_two (by decide) (by decide), i3, i7]; rfl
theorem t44 : (⟨#[52]⟩ : ByteArray).data.toList = fmtIv 4 4 := by rw [fmt_one (by decide) rfl, i4]
theorem t77 (a b : Int) (h : vld a b = true) : (⟨#[55, 46, 46, 55]⟩ : ByteArray).data.toList ≠ fmtIv a b := by
  intro e
  have h1 := fvals_fmt h
  have h2 : fvals [55, 46, 46, 55] = (7, 7) := by decide
  rw [← e] at h1
  have h3 : (a, b) = ((7 : Int), (7 : Int)) := h1.symm.trans h2
  obtain ⟨rfl, rfl⟩ : a = 7 ∧ b = 7 := ⟨congrArg Prod.fst h3, congrArg Prod.snd h3⟩
  rw [fmt_one h rfl, i7] at e
  exact absurd e (by decide)

/-- what the walk holds of the world: the four intervals, the laid variables -/
structure KX (w : World) (Ba Bb Bc Bd : Nat) (W : World) : Prop where
  ready : Ready W
  below : Below w.heap.size w W
  a : Two Ba 13 15 W
  b : Two Bb 8 15 W
  c : Two Bc 0 2 W
  d : Two Bd 3 7 W
theorem KX.next {w W W' : World} {Ba Bb Bc Bd : Nat} (h : KX w Ba Bb Bc Bd W) (hb : Below W.heap.size W W') : KX w Ba Bb Bc Bd W' :=
  ⟨h.ready.below hb, h.below.trans (hb.mono h.below.size), h.a.next hb, h.b.next hb, h.c.next hb, h.d.next hb⟩
theorem x_at (w : World) : Calls Tryd.prog 16 #[.int .i64 (-4)] w fun e w' => e = .returned (iv 0 0) ∧ Below w.heap.size w w' := at_c (-4) w
theorem x_37 (w : World) (hr : Ready w) : Calls Tryd.prog 24 #[iv 3 7] w fun e w' => e = .returned (.string ⟨#[51, 46, 46, 55]⟩) ∧ Below w.heap.size w w' := by
  have := format_c 3 7 (by decide) (by decide) w hr
  rw [← t37] at this
  exact this
theorem x_44 (w : World) (hr : Ready w) : Calls Tryd.prog 24 #[iv 4 4] w fun e w' => e = .returned (.string ⟨#[52]⟩) ∧ Below w.heap.size w w' := by
  have := format_c 4 4 (by decide) (by decide) w hr
  rw [← t44] at this
  exact this
theorem x_b1 (w : World) : Calls Tryd.prog 20 #[iv 1 2, iv 3 4] w fun e w' => e = .returned (.bool true) ∧ Below w.heap.size w w' := before_c 1 2 3 4 w
theorem x_b2 (w : World) : Calls Tryd.prog 20 #[iv 1 3, iv 3 4] w fun e w' => e = .returned (.bool false) ∧ Below w.heap.size w w' := before_c 1 3 3 4 w
theorem x_mb (w : World) : Calls Tryd.prog 21 #[iv 3 4, iv 1 4] w fun e w' => e = .returned (.bool true) ∧ Below w.heap.size w w' := mayBefore_c 3 4 1 4 w
theorem x_hs (w : World) : Calls Tryd.prog 22 #[iv 3 4, .int .i64 4] w fun e w' => e = .returned (.bool true) ∧ Below w.heap.size w w' := has_c 3 4 4 w
theorem x_wd (w : World) : Calls Tryd.prog 23 #[iv 3 9] w fun e w' => e = .returned (.int .i64 6) ∧ Below w.heap.size w w' := width_c 3 9 w

set_option maxRecDepth 100000 in
set_option maxHeartbeats 8000000 in
theorem examples_c (w : World) (hr : Ready w) : Calls Tryd.prog 13 #[] w fun e w' => e = .returned (.bool true) ∧ Below w.heap.size w w' := by
  have kb0 := Below.refl w.heap.size w
  go_enter Tryd.func13, Tryd.ntmps13
  go_wp2_with fail
  refine (of_c (3) (5) _).mono ?_
  rintro e w1 ⟨rfl, hb1⟩
  have kb1 := kb0.trans (hb1.mono kb0.size)
  have hr1 := hr.below hb1
  clear hb1 kb0
  go_wp2_with fail
  refine (of_c (10) (10) _).mono ?_
  rintro e w2 ⟨rfl, hb2⟩
  have kb2 := kb1.trans (hb2.mono kb1.size)
  have hr2 := hr1.below hb2
  clear hb2 kb1 hr1
  go_wp2_with fail
  refine (add_c _ _ _ _ _ (by decide) (by decide)).mono ?_
  rintro e w3 ⟨rfl, hb3⟩
  have kb3 := kb2.trans (hb3.mono kb2.size)
  have hr3 := hr2.below hb3
  clear hb3 kb2 hr2
  rw [show clamp (3 + 10) = 13 from by decide, show clamp (5 + 10) = 15 from by decide]
  have hb4 := ba w3 (.cells #[.int .i64 13, .int .i64 15] 23)
  have kb4 := kb3.trans (hb4.mono kb3.size)
  have hr4 := hr3.below hb4
  clear hb4 kb3 hr3
  have a_4 := Two.new w3 13 15
  obtain ⟨al, ap, aq⟩ := id a_4
  go_wp2_with fail
  refine (of_c (20) (25) _).mono ?_
  rintro e w5 ⟨rfl, hb5⟩
  have kb5 := kb4.trans (hb5.mono kb4.size)
  have hr5 := hr4.below hb5
  have a_5 := a_4.next hb5
  clear hb5 kb4 hr4 a_4
  clear al ap aq
  obtain ⟨al, ap, aq⟩ := id a_5
  go_wp2_with fail
  refine (of_c (10) (12) _).mono ?_
  rintro e w6 ⟨rfl, hb6⟩
  have kb6 := kb5.trans (hb6.mono kb5.size)
  have hr6 := hr5.below hb6
  have a_6 := a_5.next hb6
  clear hb6 kb5 hr5 a_5
  clear al ap aq
  obtain ⟨al, ap, aq⟩ := id a_6
  go_wp2_with fail
  refine (sub_c _ _ _ _ _ (by decide) (by decide)).mono ?_
  rintro e w7 ⟨rfl, hb7⟩
  have kb7 := kb6.trans (hb7.mono kb6.size)
  have hr7 := hr6.below hb7
  have a_7 := a_6.next hb7
  clear hb7 kb6 hr6 a_6
  clear al ap aq
  obtain ⟨al, ap, aq⟩ := id a_7
  rw [show clamp (20 - 12) = 8 from by decide, show clamp (25 - 10) = 15 from by decide]
  have hb8 := ba w7 (.cells #[.int .i64 8, .int .i64 15] 23)
  have kb8 := kb7.trans (hb8.mono kb7.size)
  have hr8 := hr7.below hb8
  have a_8 := a_7.next hb8
  clear hb8 kb7 hr7 a_7
  have b_8 := Two.new w7 8 15
  clear al ap aq
  obtain ⟨al, ap, aq⟩ := id a_8
  obtain ⟨bl, bp, bq⟩ := id b_8
  go_wp2_with fail
  refine (of_c (5) (9) _).mono ?_
  rintro e w9 ⟨rfl, hb9⟩
  have kb9 := kb8.trans (hb9.mono kb8.size)
  have hr9 := hr8.below hb9
  have a_9 := a_8.next hb9
  have b_9 := b_8.next hb9
  clear hb9 kb8 hr8 a_8 b_8
  clear al ap aq bl bp bq
  obtain ⟨al, ap, aq⟩ := id a_9
  obtain ⟨bl, bp, bq⟩ := id b_9
  go_wp2_with fail
  refine (of_c (7) (7) _).mono ?_
  rintro e w10 ⟨rfl, hb10⟩
  have kb10 := kb9.trans (hb10.mono kb9.size)
  have hr10 := hr9.below hb10
  have a_10 := a_9.next hb10
  have b_10 := b_9.next hb10
  clear hb10 kb9 hr9 a_9 b_9
  clear al ap aq bl bp bq
  obtain ⟨al, ap, aq⟩ := id a_10
  obtain ⟨bl, bp, bq⟩ := id b_10
  go_wp2_with fail
  refine (sub_c _ _ _ _ _ (by decide) (by decide)).mono ?_
  rintro e w11 ⟨rfl, hb11⟩
  have kb11 := kb10.trans (hb11.mono kb10.size)
  have hr11 := hr10.below hb11
  have a_11 := a_10.next hb11
  have b_11 := b_10.next hb11
  clear hb11 kb10 hr10 a_10 b_10
  clear al ap aq bl bp bq
  obtain ⟨al, ap, aq⟩ := id a_11
  obtain ⟨bl, bp, bq⟩ := id b_11
  rw [show clamp (5 - 7) = 0 from by decide, show clamp (9 - 7) = 2 from by decide]
  have hb12 := ba w11 (.cells #[.int .i64 0, .int .i64 2] 23)
  have kb12 := kb11.trans (hb12.mono kb11.size)
  have hr12 := hr11.below hb12
  have a_12 := a_11.next hb12
  have b_12 := b_11.next hb12
  clear hb12 kb11 hr11 a_11 b_11
  have c_12 := Two.new w11 0 2
  clear al ap aq bl bp bq
  obtain ⟨al, ap, aq⟩ := id a_12
  obtain ⟨bl, bp, bq⟩ := id b_12
  obtain ⟨cl, cp, cq⟩ := id c_12
  go_wp2_with fail
  refine (of_c (1) (2) _).mono ?_
  rintro e w13 ⟨rfl, hb13⟩
  have kb13 := kb12.trans (hb13.mono kb12.size)
  have hr13 := hr12.below hb13
  have a_13 := a_12.next hb13
  have b_13 := b_12.next hb13
  have c_13 := c_12.next hb13
  clear hb13 kb12 hr12 a_12 b_12 c_12
  clear al ap aq bl bp bq cl cp cq
  obtain ⟨al, ap, aq⟩ := id a_13
  obtain ⟨bl, bp, bq⟩ := id b_13
  obtain ⟨cl, cp, cq⟩ := id c_13
  go_wp2_with fail
  refine (of_c (3) (4) _).mono ?_
  rintro e w14 ⟨rfl, hb14⟩
  have kb14 := kb13.trans (hb14.mono kb13.size)
  have hr14 := hr13.below hb14
  have a_14 := a_13.next hb14
  have b_14 := b_13.next hb14
  have c_14 := c_13.next hb14
  clear hb14 kb13 hr13 a_13 b_13 c_13
  clear al ap aq bl bp bq cl cp cq
  obtain ⟨al, ap, aq⟩ := id a_14
  obtain ⟨bl, bp, bq⟩ := id b_14
  obtain ⟨cl, cp, cq⟩ := id c_14
  go_wp2_with fail
  refine (meetE_c _ _ _ _ _ (by decide) (by decide) (by decide)).mono ?_
  rintro e w15 ⟨rfl, hb15⟩
  have kb15 := kb14.trans (hb15.mono kb14.size)
  have hr15 := hr14.below hb15
  have a_15 := a_14.next hb15
  have b_15 := b_14.next hb15
  have c_15 := c_14.next hb15
  clear hb15 kb14 hr14 a_14 b_14 c_14
  clear al ap aq bl bp bq cl cp cq
  obtain ⟨al, ap, aq⟩ := id a_15
  obtain ⟨bl, bp, bq⟩ := id b_15
  obtain ⟨cl, cp, cq⟩ := id c_15
  have hb16 := ba w15 (.cells #[.int .i64 0, .int .i64 0] 23)
  have kb16 := kb15.trans (hb16.mono kb15.size)
  have hr16 := hr15.below hb16
  have a_16 := a_15.next hb16
  have b_16 := b_15.next hb16
  have c_16 := c_15.next hb16
  clear hb16 kb15 hr15 a_15 b_15 c_15
  clear al ap aq bl bp bq cl cp cq
  obtain ⟨al, ap, aq⟩ := id a_16
  obtain ⟨bl, bp, bq⟩ := id b_16
  obtain ⟨cl, cp, cq⟩ := id c_16
  go_wp2_with fail
  refine (parse_yes 3 7 (by decide) _ (by decide) t37 _ hr16).mono ?_
  rintro e w17 ⟨rfl, hb17⟩
  have kb17 := kb16.trans (hb17.mono kb16.size)
  have hr17 := hr16.below hb17
  have a_17 := a_16.next hb17
  have b_17 := b_16.next hb17
  have c_17 := c_16.next hb17
  clear hb17 kb16 hr16 a_16 b_16 c_16
  clear al ap aq bl bp bq cl cp cq
  obtain ⟨al, ap, aq⟩ := id a_17
  obtain ⟨bl, bp, bq⟩ := id b_17
  obtain ⟨cl, cp, cq⟩ := id c_17
  have hb18 := ba w17 (.cells #[.int .i64 3, .int .i64 7] 23)
  have kb18 := kb17.trans (hb18.mono kb17.size)
  have hr18 := hr17.below hb18
  have a_18 := a_17.next hb18
  have b_18 := b_17.next hb18
  have c_18 := c_17.next hb18
  clear hb18 kb17 hr17 a_17 b_17 c_17
  have d_18 := Two.new w17 3 7
  clear al ap aq bl bp bq cl cp cq
  obtain ⟨al, ap, aq⟩ := id a_18
  obtain ⟨bl, bp, bq⟩ := id b_18
  obtain ⟨cl, cp, cq⟩ := id c_18
  obtain ⟨dl, dp, dq⟩ := id d_18
  go_wp2_with fail
  refine (parse_no _ (by decide) t77 _ hr18).mono ?_
  rintro e w19 ⟨rfl, hb19⟩
  have kb19 := kb18.trans (hb19.mono kb18.size)
  have hr19 := hr18.below hb19
  have a_19 := a_18.next hb19
  have b_19 := b_18.next hb19
  have c_19 := c_18.next hb19
  have d_19 := d_18.next hb19
  clear hb19 kb18 hr18 a_18 b_18 c_18 d_18
  clear al ap aq bl bp bq cl cp cq dl dp dq
  obtain ⟨al, ap, aq⟩ := id a_19
  obtain ⟨bl, bp, bq⟩ := id b_19
  obtain ⟨cl, cp, cq⟩ := id c_19
  obtain ⟨dl, dp, dq⟩ := id d_19
  have hb20 := ba w19 (.cells #[.int .i64 0, .int .i64 0] 23)
  have kb20 := kb19.trans (hb20.mono kb19.size)
  have hr20 := hr19.below hb20
  have a_20 := a_19.next hb20
  have b_20 := b_19.next hb20
  have c_20 := c_19.next hb20
  have d_20 := d_19.next hb20
  clear hb20 kb19 hr19 a_19 b_19 c_19 d_19
  clear al ap aq bl bp bq cl cp cq dl dp dq
  obtain ⟨al, ap, aq⟩ := id a_20
  obtain ⟨bl, bp, bq⟩ := id b_20
  obtain ⟨cl, cp, cq⟩ := id c_20
  obtain ⟨dl, dp, dq⟩ := id d_20
  go_wp2_with fail
  refine (of_c (2) (1) _).mono ?_
  rintro e w21 ⟨rfl, hb21⟩
  have kb21 := kb20.trans (hb21.mono kb20.size)
  have hr21 := hr20.below hb21
  have a_21 := a_20.next hb21
  have b_21 := b_20.next hb21
  have c_21 := c_20.next hb21
  have d_21 := d_20.next hb21
  clear hb21 kb20 hr20 a_20 b_20 c_20 d_20
  clear al ap aq bl bp bq cl cp cq dl dp dq
  obtain ⟨al, ap, aq⟩ := id a_21
  obtain ⟨bl, bp, bq⟩ := id b_21
  obtain ⟨cl, cp, cq⟩ := id c_21
  obtain ⟨dl, dp, dq⟩ := id d_21
  go_wp2_with fail
  refine (of_c (0) (0) _).mono ?_
  rintro e w22 ⟨rfl, hb22⟩
  have kb22 := kb21.trans (hb22.mono kb21.size)
  have hr22 := hr21.below hb22
  have a_22 := a_21.next hb22
  have b_22 := b_21.next hb22
  have c_22 := c_21.next hb22
  have d_22 := d_21.next hb22
  clear hb22 kb21 hr21 a_21 b_21 c_21 d_21
  clear al ap aq bl bp bq cl cp cq dl dp dq
  obtain ⟨al, ap, aq⟩ := id a_22
  obtain ⟨bl, bp, bq⟩ := id b_22
  obtain ⟨cl, cp, cq⟩ := id c_22
  obtain ⟨dl, dp, dq⟩ := id d_22
  go_wp2_with fail
  refine (add_no _ _ _ _ _ (by decide)).mono ?_
  rintro e w23 ⟨rfl, hb23⟩
  have kb23 := kb22.trans (hb23.mono kb22.size)
  have hr23 := hr22.below hb23
  have a_23 := a_22.next hb23
  have b_23 := b_22.next hb23
  have c_23 := c_22.next hb23
  have d_23 := d_22.next hb23
  clear hb23 kb22 hr22 a_22 b_22 c_22 d_22
  clear al ap aq bl bp bq cl cp cq dl dp dq
  obtain ⟨al, ap, aq⟩ := id a_23
  obtain ⟨bl, bp, bq⟩ := id b_23
  obtain ⟨cl, cp, cq⟩ := id c_23
  obtain ⟨dl, dp, dq⟩ := id d_23
  have hb24 := ba w23 (.cells #[.int .i64 0, .int .i64 0] 23)
  have kb24 := kb23.trans (hb24.mono kb23.size)
  have hr24 := hr23.below hb24
  have a_24 := a_23.next hb24
  have b_24 := b_23.next hb24
  have c_24 := c_23.next hb24
  have d_24 := d_23.next hb24
  clear hb24 kb23 hr23 a_23 b_23 c_23 d_23
  clear al ap aq bl bp bq cl cp cq dl dp dq
  obtain ⟨al, ap, aq⟩ := id a_24
  obtain ⟨bl, bp, bq⟩ := id b_24
  obtain ⟨cl, cp, cq⟩ := id c_24
  obtain ⟨dl, dp, dq⟩ := id d_24
  go_wp2_with fail
  have K : KX w w3.heap.size w7.heap.size w11.heap.size w17.heap.size (w23.alloc (.cells #[.int .i64 0, .int .i64 0] 23)) := ⟨hr24, kb24, a_24, b_24, c_24, d_24⟩
  clear al ap aq bl bp bq cl cp cq dl dp dq a_24 b_24 c_24 d_24 hr24 kb24 hr
  generalize w3.heap.size = Ba at *
  generalize w7.heap.size = Bb at *
  generalize w11.heap.size = Bc at *
  generalize w17.heap.size = Bd at *
  generalize (w23.alloc (.cells #[.int .i64 0, .int .i64 0] 23)) = W at *
  replace K := K.next W.drewB
  simp only [List.append_eq, List.cons_append, List.nil_append]
  go_region_held3 (fun w' => w'.cell? ⟨Ba, 0, none⟩ = some (.int .i64 13) ∧ w'.cell? ⟨Ba, 1, none⟩ = some (.int .i64 15) ∧ w'.cell? ⟨Bb, 0, none⟩ = some (.int .i64 8) ∧ w'.cell? ⟨Bb, 1, none⟩ = some (.int .i64 15) ∧ w'.cell? ⟨Bc, 0, none⟩ = some (.int .i64 0) ∧ w'.cell? ⟨Bc, 1, none⟩ = some (.int .i64 2) ∧ w'.cell? ⟨Bd, 0, none⟩ = some (.int .i64 3) ∧ w'.cell? ⟨Bd, 1, none⟩ = some (.int .i64 7) ∧ KX w Ba Bb Bc Bd w') (first | exact ⟨K.a.p, K.a.q, K.b.p, K.b.q, K.c.p, K.c.q, K.d.p, K.d.q, K⟩ | go_keep)
    (first | (go_at_call 17; (with_reducible refine (of_c _ _ _).mono ?_); rintro e w1 ⟨rfl, hb1⟩; replace K := K.next hb1) | (go_at_call 16; (with_reducible refine (x_at _).mono ?_); rintro e w1 ⟨rfl, hb1⟩; replace K := K.next hb1) | (go_at_call 24; (with_reducible refine (x_37 _ K.ready).mono ?_); rintro e w1 ⟨rfl, hb1⟩; replace K := K.next hb1) | (go_at_call 24; (with_reducible refine (x_44 _ K.ready).mono ?_); rintro e w1 ⟨rfl, hb1⟩; replace K := K.next hb1) | (go_at_call 20; (with_reducible refine (x_b1 _).mono ?_); rintro e w1 ⟨rfl, hb1⟩; replace K := K.next hb1) | (go_at_call 20; (with_reducible refine (x_b2 _).mono ?_); rintro e w1 ⟨rfl, hb1⟩; replace K := K.next hb1) | (go_at_call 21; (with_reducible refine (x_mb _).mono ?_); rintro e w1 ⟨rfl, hb1⟩; replace K := K.next hb1) | (go_at_call 22; (with_reducible refine (x_hs _).mono ?_); rintro e w1 ⟨rfl, hb1⟩; replace K := K.next hb1) | (go_at_call 23; (with_reducible refine (x_wd _).mono ?_); rintro e w1 ⟨rfl, hb1⟩; replace K := K.next hb1))
  go_wp2_with fail
  go_ret
  exact ⟨rfl, K.below⟩
end Go.Proofs.YtmihogccpgdpaaaDoor
