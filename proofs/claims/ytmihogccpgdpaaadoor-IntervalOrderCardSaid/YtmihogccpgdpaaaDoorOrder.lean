/-
  The walk of IntervalOrder.
-/
import Derived.Test.YtmihogccpgdpaaaDoorLaws
namespace Go.Proofs.YtmihogccpgdpaaaDoor
open Go.RowKit

/-- two boxed intervals, the laid variables -/
structure K2 (w : World) (A B : Nat) (a b c d : Int) (W : World) : Prop where
  ready : Ready W
  below : Below w.heap.size w W
  a : Two A a b W
  b : Two B c d W
theorem K2.next {w W W' : World} {A B : Nat} {a b c d : Int} (h : K2 w A B a b c d W) (hb : Below W.heap.size W W') : K2 w A B a b c d W' :=
  ⟨h.ready.below hb, h.below.trans (hb.mono h.below.size), h.a.next hb, h.b.next hb⟩

set_option maxRecDepth 100000 in
set_option maxHeartbeats 8000000 in
theorem order_tt (a b c d t : Int) (h1 : vld a b = true) (h2 : vld c d = true) (w : World) (hr : Ready w) :
    Calls Tryd.prog 5 #[iv a b, iv c d, .int .i64 t] w fun e w' => e = .returned (.bool true) ∧ Below w.heap.size w w' := by
  obtain ⟨a0, a1, a2⟩ := vld_iff.1 h1
  have H1 := Lib.hid h1
  have H2 := Lib.hid h2
  clear h1 h2
  go_enter Tryd.func5, Tryd.ntmps5
  go_wp2_with fail
  have b1 := ba w (.cells #[.int .i64 a, .int .i64 b] 23)
  have b2 := ba (w.alloc (.cells #[.int .i64 a, .int .i64 b] 23)) (.cells #[.int .i64 c, .int .i64 d] 23)
  have K : K2 w w.heap.size (w.heap.size + 1) a b c d ((w.alloc (.cells #[.int .i64 a, .int .i64 b] 23)).alloc (.cells #[.int .i64 c, .int .i64 d] 23)) := ⟨(hr.below b1).below b2, bt b1 b2, (Two.new w a b).next b2, Two.at _ _ c d (by simp)⟩
  clear b1 b2 hr
  generalize w.heap.size + 1 = B at *
  generalize w.heap.size = A at *
  generalize (w.alloc (.cells #[.int .i64 a, .int .i64 b] 23)).alloc (.cells #[.int .i64 c, .int .i64 d] 23) = W at *
  replace K := K.next W.drewB
  go_region_held3 (fun w' => w'.cell? ⟨A, 0, none⟩ = some (.int .i64 a) ∧ w'.cell? ⟨A, 1, none⟩ = some (.int .i64 b) ∧ w'.cell? ⟨B, 0, none⟩ = some (.int .i64 c) ∧ w'.cell? ⟨B, 1, none⟩ = some (.int .i64 d) ∧ K2 w A B a b c d w') (first | exact ⟨K.a.p, K.a.q, K.b.p, K.b.q, K⟩ | go_keep)
    (first | (go_at_call 15; (with_reducible refine (rvalid_c _ _ _).mono ?_); rintro e w1 ⟨rfl, hb1⟩; replace K := K.next hb1; clear hb1))
  rw [H1.out, H2.out]
  obtain ⟨_, _, ⟨al, ap, aq⟩, ⟨bl, bp, bq⟩⟩ := id K
  go_wp2_with fail
  refine (examples_c _ K.ready).mono ?_
  rintro e w2 ⟨rfl, hb2⟩
  replace K := K.next hb2
  clear hb2 al ap aq bl bp bq
  obtain ⟨_, _, ⟨al, ap, aq⟩, ⟨bl, bp, bq⟩⟩ := id K
  go_wp2_with fail
  refine (before_c _ _ _ _ _).mono ?_
  rintro e w3 ⟨rfl, hb3⟩
  replace K := K.next hb3
  clear hb3 al ap aq bl bp bq
  obtain ⟨_, _, ⟨al, ap, aq⟩, ⟨bl, bp, bq⟩⟩ := id K
  rw [H1.out, H2.out]
  go_wp2_with fail
  refine (mayBefore_c _ _ _ _ _).mono ?_
  rintro e w4 ⟨rfl, hb4⟩
  replace K := K.next hb4
  clear hb4 al ap aq bl bp bq
  obtain ⟨_, _, ⟨al, ap, aq⟩, ⟨bl, bp, bq⟩⟩ := id K
  rw [H1.out, H2.out]
  go_wp2_with fail
  refine (has_c _ _ _ _).mono ?_
  rintro e w5 ⟨rfl, hb5⟩
  replace K := K.next hb5
  clear hb5 al ap aq bl bp bq
  obtain ⟨_, _, ⟨al, ap, aq⟩, ⟨bl, bp, bq⟩⟩ := id K
  rw [H1.out]
  go_wp2_with fail
  all_goals (
    refine (width_c _ _ _).mono ?_
    rintro e w6 ⟨rfl, hb6⟩
    replace K := K.next hb6
    rw [H1.out]
    go_wp2_with fail
    go_ret
    exact ⟨rfl, K.below⟩)

set_option maxRecDepth 100000 in
set_option maxHeartbeats 8000000 in
theorem order_tf (a b c d t : Int) (h1 : vld a b = true) (h2 : vld c d = false) (w : World) (hr : Ready w) :
    Calls Tryd.prog 5 #[iv a b, iv c d, .int .i64 t] w fun e w' => e = .returned (.bool true) ∧ Below w.heap.size w w' := by
  obtain ⟨a0, a1, a2⟩ := vld_iff.1 h1
  have H1 := Lib.hid h1
  have H2 := Lib.hid h2
  clear h1 h2
  go_enter Tryd.func5, Tryd.ntmps5
  go_wp2_with fail
  have b1 := ba w (.cells #[.int .i64 a, .int .i64 b] 23)
  have b2 := ba (w.alloc (.cells #[.int .i64 a, .int .i64 b] 23)) (.cells #[.int .i64 c, .int .i64 d] 23)
  have K : K2 w w.heap.size (w.heap.size + 1) a b c d ((w.alloc (.cells #[.int .i64 a, .int .i64 b] 23)).alloc (.cells #[.int .i64 c, .int .i64 d] 23)) := ⟨(hr.below b1).below b2, bt b1 b2, (Two.new w a b).next b2, Two.at _ _ c d (by simp)⟩
  clear b1 b2 hr
  generalize w.heap.size + 1 = B at *
  generalize w.heap.size = A at *
  generalize (w.alloc (.cells #[.int .i64 a, .int .i64 b] 23)).alloc (.cells #[.int .i64 c, .int .i64 d] 23) = W at *
  replace K := K.next W.drewB
  go_region_held3 (fun w' => w'.cell? ⟨A, 0, none⟩ = some (.int .i64 a) ∧ w'.cell? ⟨A, 1, none⟩ = some (.int .i64 b) ∧ w'.cell? ⟨B, 0, none⟩ = some (.int .i64 c) ∧ w'.cell? ⟨B, 1, none⟩ = some (.int .i64 d) ∧ K2 w A B a b c d w') (first | exact ⟨K.a.p, K.a.q, K.b.p, K.b.q, K⟩ | go_keep)
    (first | (go_at_call 15; (with_reducible refine (rvalid_c _ _ _).mono ?_); rintro e w1 ⟨rfl, hb1⟩; replace K := K.next hb1; clear hb1))
  rw [H1.out, H2.out]
  obtain ⟨_, _, ⟨al, ap, aq⟩, ⟨bl, bp, bq⟩⟩ := id K
  go_wp2_with fail
  refine (examples_c _ K.ready).mono ?_
  rintro e w2 ⟨rfl, hb2⟩
  replace K := K.next hb2
  clear hb2 al ap aq bl bp bq
  obtain ⟨_, _, ⟨al, ap, aq⟩, ⟨bl, bp, bq⟩⟩ := id K
  go_wp2_with fail
  refine (before_c _ _ _ _ _).mono ?_
  rintro e w3 ⟨rfl, hb3⟩
  replace K := K.next hb3
  clear hb3 al ap aq bl bp bq
  obtain ⟨_, _, ⟨al, ap, aq⟩, ⟨bl, bp, bq⟩⟩ := id K
  rw [H1.out, H2.out]
  go_wp2_with fail
  refine (mayBefore_c _ _ _ _ _).mono ?_
  rintro e w4 ⟨rfl, hb4⟩
  replace K := K.next hb4
  clear hb4 al ap aq bl bp bq
  obtain ⟨_, _, ⟨al, ap, aq⟩, ⟨bl, bp, bq⟩⟩ := id K
  rw [H1.out, H2.out]
  go_wp2_with fail
  refine (has_c _ _ _ _).mono ?_
  rintro e w5 ⟨rfl, hb5⟩
  replace K := K.next hb5
  clear hb5 al ap aq bl bp bq
  obtain ⟨_, _, ⟨al, ap, aq⟩, ⟨bl, bp, bq⟩⟩ := id K
  rw [H1.out]
  go_wp2_with fail
  all_goals (
    refine (width_c _ _ _).mono ?_
    rintro e w6 ⟨rfl, hb6⟩
    replace K := K.next hb6
    rw [H1.out]
    go_wp2_with fail
    go_ret
    exact ⟨rfl, K.below⟩)

set_option maxRecDepth 100000 in
set_option maxHeartbeats 8000000 in
theorem order_ft (a b c d t : Int) (h1 : vld a b = false) (h2 : vld c d = true) (w : World) (hr : Ready w) :
    Calls Tryd.prog 5 #[iv a b, iv c d, .int .i64 t] w fun e w' => e = .returned (.bool true) ∧ Below w.heap.size w w' := by
  have H1 := Lib.hid h1
  have H2 := Lib.hid h2
  clear h1 h2
  go_enter Tryd.func5, Tryd.ntmps5
  go_wp2_with fail
  have b1 := ba w (.cells #[.int .i64 a, .int .i64 b] 23)
  have b2 := ba (w.alloc (.cells #[.int .i64 a, .int .i64 b] 23)) (.cells #[.int .i64 c, .int .i64 d] 23)
  have K : K2 w w.heap.size (w.heap.size + 1) a b c d ((w.alloc (.cells #[.int .i64 a, .int .i64 b] 23)).alloc (.cells #[.int .i64 c, .int .i64 d] 23)) := ⟨(hr.below b1).below b2, bt b1 b2, (Two.new w a b).next b2, Two.at _ _ c d (by simp)⟩
  clear b1 b2 hr
  generalize w.heap.size + 1 = B at *
  generalize w.heap.size = A at *
  generalize (w.alloc (.cells #[.int .i64 a, .int .i64 b] 23)).alloc (.cells #[.int .i64 c, .int .i64 d] 23) = W at *
  replace K := K.next W.drewB
  go_region_held3 (fun w' => w'.cell? ⟨A, 0, none⟩ = some (.int .i64 a) ∧ w'.cell? ⟨A, 1, none⟩ = some (.int .i64 b) ∧ w'.cell? ⟨B, 0, none⟩ = some (.int .i64 c) ∧ w'.cell? ⟨B, 1, none⟩ = some (.int .i64 d) ∧ K2 w A B a b c d w') (first | exact ⟨K.a.p, K.a.q, K.b.p, K.b.q, K⟩ | go_keep)
    (first | (go_at_call 15; (with_reducible refine (rvalid_c _ _ _).mono ?_); rintro e w1 ⟨rfl, hb1⟩; replace K := K.next hb1; clear hb1))
  rw [H1.out, H2.out]
  obtain ⟨_, _, ⟨al, ap, aq⟩, ⟨bl, bp, bq⟩⟩ := id K
  go_wp2_with fail
  refine (examples_c _ K.ready).mono ?_
  rintro e w2 ⟨rfl, hb2⟩
  replace K := K.next hb2
  clear hb2 al ap aq bl bp bq
  obtain ⟨_, _, ⟨al, ap, aq⟩, ⟨bl, bp, bq⟩⟩ := id K
  go_wp2_with fail
  refine (before_c _ _ _ _ _).mono ?_
  rintro e w3 ⟨rfl, hb3⟩
  replace K := K.next hb3
  clear hb3 al ap aq bl bp bq
  obtain ⟨_, _, ⟨al, ap, aq⟩, ⟨bl, bp, bq⟩⟩ := id K
  rw [H1.out, H2.out]
  go_wp2_with fail
  refine (mayBefore_c _ _ _ _ _).mono ?_
  rintro e w4 ⟨rfl, hb4⟩
  replace K := K.next hb4
  clear hb4 al ap aq bl bp bq
  obtain ⟨_, _, ⟨al, ap, aq⟩, ⟨bl, bp, bq⟩⟩ := id K
  rw [H1.out, H2.out]
  go_wp2_with fail
  refine (has_c _ _ _ _).mono ?_
  rintro e w5 ⟨rfl, hb5⟩
  replace K := K.next hb5
  clear hb5 al ap aq bl bp bq
  obtain ⟨_, _, ⟨al, ap, aq⟩, ⟨bl, bp, bq⟩⟩ := id K
  rw [H1.out]
  go_wp2_with fail
  all_goals (
    refine (width_c _ _ _).mono ?_
    rintro e w6 ⟨rfl, hb6⟩
    replace K := K.next hb6
    rw [H1.out]
    go_wp2_with fail
    go_ret
    exact ⟨rfl, K.below⟩)

set_option maxRecDepth 100000 in
set_option maxHeartbeats 8000000 in
theorem order_ff (a b c d t : Int) (h1 : vld a b = false) (h2 : vld c d = false) (w : World) (hr : Ready w) :
    Calls Tryd.prog 5 #[iv a b, iv c d, .int .i64 t] w fun e w' => e = .returned (.bool true) ∧ Below w.heap.size w w' := by
  have H1 := Lib.hid h1
  have H2 := Lib.hid h2
  clear h1 h2
  go_enter Tryd.func5, Tryd.ntmps5
  go_wp2_with fail
  have b1 := ba w (.cells #[.int .i64 a, .int .i64 b] 23)
  have b2 := ba (w.alloc (.cells #[.int .i64 a, .int .i64 b] 23)) (.cells #[.int .i64 c, .int .i64 d] 23)
  have K : K2 w w.heap.size (w.heap.size + 1) a b c d ((w.alloc (.cells #[.int .i64 a, .int .i64 b] 23)).alloc (.cells #[.int .i64 c, .int .i64 d] 23)) := ⟨(hr.below b1).below b2, bt b1 b2, (Two.new w a b).next b2, Two.at _ _ c d (by simp)⟩
  clear b1 b2 hr
  generalize w.heap.size + 1 = B at *
  generalize w.heap.size = A at *
  generalize (w.alloc (.cells #[.int .i64 a, .int .i64 b] 23)).alloc (.cells #[.int .i64 c, .int .i64 d] 23) = W at *
  replace K := K.next W.drewB
  go_region_held3 (fun w' => w'.cell? ⟨A, 0, none⟩ = some (.int .i64 a) ∧ w'.cell? ⟨A, 1, none⟩ = some (.int .i64 b) ∧ w'.cell? ⟨B, 0, none⟩ = some (.int .i64 c) ∧ w'.cell? ⟨B, 1, none⟩ = some (.int .i64 d) ∧ K2 w A B a b c d w') (first | exact ⟨K.a.p, K.a.q, K.b.p, K.b.q, K⟩ | go_keep)
    (first | (go_at_call 15; (with_reducible refine (rvalid_c _ _ _).mono ?_); rintro e w1 ⟨rfl, hb1⟩; replace K := K.next hb1; clear hb1))
  rw [H1.out, H2.out]
  obtain ⟨_, _, ⟨al, ap, aq⟩, ⟨bl, bp, bq⟩⟩ := id K
  go_wp2_with fail
  refine (examples_c _ K.ready).mono ?_
  rintro e w2 ⟨rfl, hb2⟩
  replace K := K.next hb2
  clear hb2 al ap aq bl bp bq
  obtain ⟨_, _, ⟨al, ap, aq⟩, ⟨bl, bp, bq⟩⟩ := id K
  go_wp2_with fail
  refine (before_c _ _ _ _ _).mono ?_
  rintro e w3 ⟨rfl, hb3⟩
  replace K := K.next hb3
  clear hb3 al ap aq bl bp bq
  obtain ⟨_, _, ⟨al, ap, aq⟩, ⟨bl, bp, bq⟩⟩ := id K
  rw [H1.out, H2.out]
  go_wp2_with fail
  refine (mayBefore_c _ _ _ _ _).mono ?_
  rintro e w4 ⟨rfl, hb4⟩
  replace K := K.next hb4
  clear hb4 al ap aq bl bp bq
  obtain ⟨_, _, ⟨al, ap, aq⟩, ⟨bl, bp, bq⟩⟩ := id K
  rw [H1.out, H2.out]
  go_wp2_with fail
  refine (has_c _ _ _ _).mono ?_
  rintro e w5 ⟨rfl, hb5⟩
  replace K := K.next hb5
  clear hb5 al ap aq bl bp bq
  obtain ⟨_, _, ⟨al, ap, aq⟩, ⟨bl, bp, bq⟩⟩ := id K
  rw [H1.out]
  go_wp2_with fail
  all_goals (
    refine (width_c _ _ _).mono ?_
    rintro e w6 ⟨rfl, hb6⟩
    replace K := K.next hb6
    rw [H1.out]
    go_wp2_with fail
    go_ret
    exact ⟨rfl, K.below⟩)
theorem order_w (a b c d t : Int) (w : World) (hr : Ready w) :
    Calls Tryd.prog 5 #[iv a b, iv c d, .int .i64 t] w fun e w' => e = .returned (.bool true) ∧ Below w.heap.size w w' := by
  cases h1 : vld a b <;> cases h2 : vld c d
  · exact order_ff a b c d t h1 h2 w hr
  · exact order_ft a b c d t h1 h2 w hr
  · exact order_tf a b c d t h1 h2 w hr
  · exact order_tt a b c d t h1 h2 w hr
end Go.Proofs.YtmihogccpgdpaaaDoor
