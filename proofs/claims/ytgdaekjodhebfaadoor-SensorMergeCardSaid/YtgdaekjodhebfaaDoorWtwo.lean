/-
  The walk of SensorSteps.
-/
import Derived.Test.YtgdaekjodhebfaaDoorWone
namespace Go.Proofs.YtgdaekjodhebfaaDoor
open Go.RowKit
attribute [local go_sem ↓] Go.wp_at_zero Go.wp_at_succ

theorem cnt_last {l : List (Int × Int)} (hv : validL l = true) {k : Nat} (hk : k ≤ l.length) : Cnt l (lastT (-1) (l.take k)) k := by
  refine ⟨hk, fun i hi hik => ?_, fun i hi hik => ?_⟩
  · have h1 : k - 1 < l.length := by omega
    have h2 := lastT_take h1 (-1)
    rw [show k - 1 + 1 = k from by omega] at h2
    rw [h2]
    by_cases e : i = k - 1
    · subst e; omega
    · have := sorted_at hv (show i < k - 1 by omega) h1; omega
  · by_cases e : k = 0
    · subst e
      have := bound_at hv hi
      show (-1 : Int) < _
      omega
    · have h1 : k - 1 < l.length := by omega
      have h2 := lastT_take h1 (-1)
      rw [show k - 1 + 1 = k from by omega] at h2
      rw [h2]
      exact sorted_at hv (show k - 1 < i by omega) hi
theorem at_here {l : List (Int × Int)} (hv : validL l = true) {k : Nat} (hk : k < l.length) : atL l l[k].1 = l[k].2 := by
  have h := cnt_last hv (k := k + 1) (by omega)
  rw [lastT_take hk] at h
  rw [h.at_, dif_pos (by omega)]
  simp
theorem at_between {l : List (Int × Int)} (hv : validL l = true) {k : Nat} (hk : k < l.length) {t : Int} (h1 : lastT (-1) (l.take k) < t) (h2 : t < l[k].1) : atL l t = atL l (lastT (-1) (l.take k)) := by
  have h := cnt_last hv (k := k) (by omega)
  have h' : Cnt l t k := ⟨h.le, fun i hi hik => by have := h.lo i hi hik; omega, fun i hi hik => by
    by_cases e : i = k
    · subst e; exact h2
    · have := sorted_at hv (show k < i by omega) hi; omega⟩
  rw [h.at_, h'.at_]
theorem next_here {l : List (Int × Int)} (hv : validL l = true) {k : Nat} (hk : k < l.length) : optV (nextL l (lastT (-1) (l.take k))) = .tuple #[.agg #[.int .i64 l[k].1, .int .i16 l[k].2], .bool true] := by
  rw [(cnt_last hv (k := k) (by omega)).next, List.getElem?_eq_getElem hk]
  rfl
theorem next_end {l : List (Int × Int)} (hv : validL l = true) : optV (nextL l (lastT (-1) l)) = .tuple #[.agg #[.int .i64 0, .int .i16 0], .bool false] := by
  have := (cnt_last hv (k := l.length) (Nat.le_refl _)).next
  rw [List.take_length] at this
  rw [this, List.getElem?_eq_none (Nat.le_refl _)]
  rfl
set_option maxRecDepth 100000 in
set_option maxHeartbeats 4000000 in
theorem sensorSteps_w (l : List (Int × Int)) (hlm : (l.length : Int) ≤ 9223372036854775807) (time : Int) (A : Option Addr) (cap : Nat) (w : World) (hr : Ready w) (C : Chs w A l) : Calls Tryd.prog 4 #[.slice A l.length cap, .int .i64 time] w (Yes w) := by
  have HC := Lib.hid C
  clear C
  go_enter Tryd.func4, Tryd.ntmps4
  go_wp2_with fail
  refine (made_c l hlm A cap _ HC.out).mono ?_
  intro e w1 h1
  by_cases hc : l.length ≤ 60 ∧ validL l = true
  · obtain ⟨tp, rfl, T, hb1⟩ := h1.yes hc
    have hl : l.length ≤ 1000 := by omega
    have hl3 : (l.length : Int) ≤ 1000 := by omega
    have HV := Lib.hid hc.2
    clear h1 hc
    have HC1 := Lib.hid (HC.out.next hb1)
    have HT := Lib.hid T
    have HB1 := Lib.hid hb1
    clear hb1 T HC
    go_wp2_with fail
    go_loopw [7, 27] (fun at_ i wr => ∃ k : Nat, k ≤ l.length ∧ i = .int .i64 k ∧ at_ = .int .i64 (lastT (-1) (l.take k)) ∧ Below w1.heap.size w1 wr) (fun _ i _ => l.length - (intOf i).toNat)
    case atStart => exact ⟨0, by omega, rfl, rfl, Below.refl _ _⟩
    case round =>
      obtain ⟨k, hk, rfl, rfl, hbr⟩ := hrel
      by_cases hlt : k < l.length
      · obtain ⟨ad, rfl, had, c0, c1⟩ := (HC1.out.next hbr).at_ k _ (List.getElem?_eq_getElem hlt)
        rw [← add_of_add, add_one] at c1
        have HT1 := Lib.hid (HT.out.next hbr)
        have HNX := Lib.hid (next_here HV.out hlt)
        have HAT := Lib.hid (at_here HV.out hlt)
        have HBW := Lib.hid (fun t => at_between (t := t) HV.out hlt)
        have HLS := Lib.hid (lastT_take hlt (-1))
        generalize l[k] = x at *
        generalize lastT (-1) (l.take k) = la at *
        obtain ⟨tx, vx⟩ := x
        have HB := Lib.hid hbr
        clear hbr
        go_wp2_with fail
        have hb2 := ba wr (.cells #[.int .i64 tx, .int .i16 vx] 29)
        have X := CX.new wr tx vx 29
        have k2 := bt HB.out hb2
        have T := HT1.out.next hb2
        clear hb2 HT1 HB c0 c1 had
        have HX := Lib.hid X
        clear X
        refine (next_c l hl HV.out la tp _ T).mono ?_
        rintro e w3 ⟨rfl, hb3⟩
        rw [HNX.out]
        replace k2 := bt k2 hb3
        replace T := T.next hb3
        have X := HX.out.next hb3
        clear hb3 HX
        have HX := Lib.hid X
        clear X
        generalize wr.heap.size = XB at *
        go_wp2_with fail
        have hb4 := ba w3 (.cells #[.int .i64 tx, .int .i16 vx] 29)
        have Y := CX.new w3 tx vx 29
        replace k2 := bt k2 hb4
        replace T := T.next hb4
        have X := HX.out.next hb4
        clear hb4 HX
        generalize w3.alloc (.cells #[.int .i64 tx, .int .i16 vx] 29) = W3 at *
        generalize w3.heap.size = YB at *
        replace k2 := bt k2 W3.drewB
        replace T := T.next W3.drewB
        replace X := X.next W3.drewB
        replace Y := Y.next W3.drewB
        have K : CX XB tx vx W3.drew ∧ CX YB tx vx W3.drew ∧ Trc W3.drew tp l ∧ Below w1.heap.size w1 W3.drew := ⟨X, Y, T, k2⟩
        clear X Y T k2
        go_region_held3 (fun w' => w'.cell? ⟨XB, 0, none⟩ = some (.int .i64 tx) ∧ w'.cell? ⟨XB, 1, none⟩ = some (.int .i16 vx) ∧ w'.cell? ⟨YB, 0, none⟩ = some (.int .i64 tx) ∧ w'.cell? ⟨YB, 1, none⟩ = some (.int .i16 vx) ∧ (CX XB tx vx w' ∧ CX YB tx vx w' ∧ Trc w' tp l ∧ Below w1.heap.size w1 w')) (first | exact ⟨K.1.x0, K.1.x1, K.2.1.x0, K.2.1.x1, K⟩ | go_keep)
          (first | (go_at_call 15; (with_reducible refine (at_c l hl HV.out tx tp _ K.2.2.1).mono ?_); rintro e w5 ⟨rfl, hb5⟩; rw [HAT.out]; replace K := And.intro (K.1.next hb5) (And.intro (K.2.1.next hb5) (And.intro (K.2.2.1.next hb5) (bt K.2.2.2 hb5)))))
        all_goals
          have HK := Lib.hid K
          have HKC := Lib.hid (And.intro K.1.x0 K.1.x1)
          clear K
          by_cases h1 : la < time
          · by_cases h2 : time < tx
            · have HBT := Lib.hid (HBW.out time h1 h2)
              obtain ⟨x0, x1⟩ := HKC.out
              go_wp2_with fail
              refine (at_c l hl HV.out time tp _ HK.out.2.2.1).mono ?_
              rintro e w6 ⟨rfl, hb6⟩
              have K := And.intro (HK.out.1.next hb6) (And.intro (HK.out.2.2.1.next hb6) (bt HK.out.2.2.2 hb6))
              clear hb6 x0 x1
              rw [HBT.out]
              go_wp2_with fail
              refine (at_c l hl HV.out la tp _ K.2.1).mono ?_
              rintro e w7 ⟨rfl, hb7⟩
              replace K := And.intro (K.1.next hb7) (And.intro (K.2.1.next hb7) (bt K.2.2 hb7))
              clear hb7
              have x0 := K.1.x0
              have x1 := K.1.x1
              have HE := Lib.hid K.2.2
              clear K
              generalize atL l la = z at *
              go_wp2_with fail
              go_roundw
              case rel => exact ⟨k + 1, by omega, by go_num, by rw [HLS.out], HE.out⟩
              case measure => simp [intOf]; omega
            · obtain ⟨x0, x1⟩ := HKC.out
              go_wp2_with fail
              go_roundw
              case rel => exact ⟨k + 1, by omega, by go_num, by rw [HLS.out], HK.out.2.2.2⟩
              case measure => simp [intOf]; omega
          · obtain ⟨x0, x1⟩ := HKC.out
            go_wp2_with fail
            go_roundw
            case rel => exact ⟨k + 1, by omega, by go_num, by rw [HLS.out], HK.out.2.2.2⟩
            case measure => simp [intOf]; omega
      · obtain rfl : k = l.length := by omega
        rw [List.take_length]
        have HNX := Lib.hid (next_end HV.out)
        have T := HT.out.next hbr
        generalize lastT (-1) l = la at *
        go_wp2_with fail
        refine (next_c l hl HV.out la tp _ T).mono ?_
        rintro e w3 ⟨rfl, hb3⟩
        rw [HNX.out]
        have k2 := bt (bt HB1.out hbr) hb3
        clear hbr hb3 T
        go_wp2_with fail
        refine (examples_c _ (hr.below (bt k2 (ba w3 _)))).mono ?_
        rintro e w6 ⟨rfl, hb6⟩
        have k3 := bt (bt k2 (ba w3 _)) hb6
        go_wp2_with fail
        go_ret
        exact ⟨rfl, k3⟩
  · obtain ⟨rfl, hb1⟩ := h1.no hc
    clear h1 hc
    go_wp2_with fail
    refine (examples_c _ (hr.below hb1)).mono ?_
    rintro e w6 ⟨rfl, hb6⟩
    have k2 := bt hb1 hb6
    go_wp2_with fail
    go_ret
    exact ⟨rfl, k2⟩
end Go.Proofs.YtgdaekjodhebfaaDoor
