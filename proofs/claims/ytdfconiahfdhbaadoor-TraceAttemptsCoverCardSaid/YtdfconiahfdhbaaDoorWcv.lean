/-
  TraceAttemptsCover.
-/
import Derived.Test.YtdfconiahfdhbaaDoorAwk
import Derived.Test.YtdfconiahfdhbaaDoorAtw
import Derived.Test.YtdfconiahfdhbaaDoorCov
import Derived.Test.YtdfconiahfdhbaaDoorWat
import Derived.Test.YtdfconiahfdhbaaDoorKst
namespace Go.Proofs.YtdfconiahfdhbaaDoor
open Go.RowKit
attribute [local go_sem ↓] Go.wp_at_zero Go.wp_at_succ

theorem at_make {P : Program} {ops : Array Oper} {rest : List Oper} {o : Oper} {a : Act} {w : World} {Q : Exit → Act → World → Prop} (h : wpList P ops Q (o :: rest) a w) : wpList P ops Q (o :: rest) a w := h
set_option maxRecDepth 100000 in
set_option maxHeartbeats 4000000 in
theorem traceCover_w (l : List Ev) (hlm : (l.length : Int) ≤ 9223372036854775807) (A : Option Addr) (cap : Nat) (w : World) (hr : Rdy w) (C : Evs w A l) : Calls Tryd.prog 8 #[.slice A l.length cap] w fun e w' => e = .returned (.bool true) ∧ Below w.heap.size w w' := by
  obtain ⟨i3, hti, hz0, hz1, hz2⟩ := info_parts info3
  have HC := Lib.hid C
  clear C
  go_enter Tryd.func8, Tryd.ntmps8
  go_wp2_with fail
  refine (awake_c _ hr).mono ?_
  rintro e w1 ⟨rfl, hb1⟩
  have HB1 := Lib.hid hb1
  clear hb1
  by_cases h80 : 80 < l.length
  · have h80I : (80 : Int) < (l.length : Int) := by omega
    go_wp2_with fail
    go_ret
    exact ⟨rfl, HB1.out⟩
  · have h80I : ¬ (80 : Int) < (l.length : Int) := by omega
    have hl : l.length ≤ 80 := by omega
    have hl80 : (l.length : Int) ≤ 80 := by omega
    go_wp2_with (refine wpList_make_full _ rfl (.tmp 17) (.tmp 17) 36 rfl w.heap.size 3 i3 (.int .i64 0) 1 Tryd.underlying36 hti hz0 hz1 _ _ _ _ l.length rfl rfl rfl rfl (by rw [hz2]; omega) (by unfold maxLen; omega) HB1.out.size ?_; intro w2 hown2 hgrow2)
    have hg0 : w.heap.size ≤ w1.heap.size := HB1.out.size
    have HB2 := Lib.hid (HB1.out.grown hgrow2 hg0 (fun j e => by cases e))
    have hown3 : w2.ownsRow w.heap.size 3 1 (.slice (some ⟨w1.heap.size, 0, none⟩) l.length l.length) l.length (covL l 0) := by
      rw [covL_zero]
      simpa [Value.cells, toList_madeCells_one] using hown2
    have HOW := Lib.hid hown3
    clear hown2 hown3 hgrow2
    go_wp2_with fail
    refine (attempts_c l hl A cap _ (HC.out.next HB2.out)).mono ?_
    rintro e w3 ⟨A2, cap2, rfl, C2, hb3, hnew⟩
    have hlt1 : w1.heap.size < w2.heap.size := (HOW.out.lt _ rfl).2
    have HV0 := Lib.hid (show CV w l 0 w1.heap.size A2 (atsL l 0) w3 from ⟨bt HB2.out hb3, owns_below HOW.out hb3, hg0, Nat.lt_of_lt_of_le hlt1 hb3.size, C2, fun ad e => by have := hnew ad e; omega⟩)
    have hal := atsL_len l
    have HA0 := Lib.hid (show ∀ q, q = atsL l 0 → q = atsL l 0 from fun q h => h)
    generalize hA : atsL l 0 = a at *
    have HAE := Lib.hid hA
    have ha80 : (a.length : Int) ≤ 80 := by omega
    generalize w1.heap.size = g at *
    clear hal hA HA0 C2 hb3 hnew hlt1
    go_wp2_with fail
    go_loopw [4, 22] (fun s4 s22 wr => ∃ q p : Nat, q ≤ a.length ∧ p ≤ l.length ∧ s22 = .int .i64 q ∧ s4 = .int .i64 ((p : Int) - 1) ∧ a.drop q = atsL l p ∧ CV w l p g A2 a wr) (fun _ s22 _ => a.length - (intOf s22).toNat)
    case atStart => exact ⟨0, 0, by omega, by omega, rfl, rfl, by rw [HAE.out]; rfl, HV0.out⟩
    case round =>
      obtain ⟨q, p, hq, hp, rfl, rfl, hdr, V⟩ := hrel
      by_cases hlt : q < a.length
      · have hx := List.getElem?_eq_getElem hlt
        have hdc := List.drop_eq_getElem_cons hlt
        rw [hdr] at hdc
        have HN := Lib.hid (atsL_cons (l.length - p) p rfl hdc)
        obtain ⟨ad2, rfl, E2⟩ := V.atts.at_ q _ hx
        generalize a[q] = x at *
        have h1 := HN.out.le
        have h2 := HN.out.tt
        have h3 := HN.out.lt
        have hxt := List.getElem?_eq_getElem h3
        have HXT := Lib.hid hxt
        have hcm := HN.out.com _ hxt
        obtain ⟨ad, rfl, EA⟩ := (HC.out.next V.below).at_ x.tt _ hxt
        generalize l[x.tt] = y at *
        have HVX := Lib.hid (V.next (ba wr (.cells #[.int .i64 x.fr, .int .i64 x.tt, .int .i64 x.task, .bool x.com] 48)))
        have HAX := Lib.hid (AX.new wr x.fr x.tt x.task x.com 48)
        have i1 : (p : Int) ≤ (x.fr : Int) := by omega
        have i2 : (x.fr : Int) ≤ (x.tt : Int) := by omega
        have i3' : (x.tt : Int) < (l.length : Int) := by omega
        have i4 : (0 : Int) ≤ (p : Int) := by omega
        have b1 : decide ((x.fr : Int) ≤ (p : Int) - 1) = false := by simp; omega
        have b2 : decide (x.tt < x.fr) = false := by simp; omega
        have b3 : decide (l.length ≤ x.tt) = false := by simp; omega
        have hky : (y.kind == 5) = x.com := by rw [← hcm]; unfold comK; rw [Bool.beq_eq_decide_eq]
        obtain ⟨xf, xt, xk, xc⟩ := x
        simp only at *
        obtain ⟨_, c0, c1, c2, c3, c4, c5⟩ := EA
        obtain ⟨_, d0, d1, d2, d3⟩ := E2
        clear hdr hdc hx hcm hxt h1 h2 h3
        have hgX : g < wr.heap.size := V.glt
        clear V
        cases xc
        all_goals
          go_wp2_with fail
          go_quiet (fail)
          go_wp2_with fail
          have HVD := Lib.hid (show ∀ n, CV w l xf g (some ad2) a (World.drewN _ n) from fun n => (HVX.out.skip HN.out.le HN.out.no).next (below_drewN _ n))
          have HAD := Lib.hid (show ∀ n, AX wr.heap.size xf xt xk _ (World.drewN _ n) from fun n => HAX.out.next (below_drewN _ n))
          generalize wr.heap.size = X at *
          clear HVX HAX c0 c1 c2 c3 c4 c5 d0 d1 d2 d3 hky b1 b2 b3
          go_loopw [7] (fun s7 W => ∃ i : Nat, xf ≤ i ∧ i ≤ xt + 1 ∧ s7 = .int .i64 i ∧ CV w l i g (some ad2) a W ∧ ∃ c, AX X xf xt xk c W) (fun s7 _ => xt + 1 - (intOf s7).toNat)
          case atStart => exact ⟨xf, by omega, by omega, rfl, HVD.out _, _, HAD.out _⟩
          case round =>
            obtain ⟨i, hfi, hit, rfl, V, c, X1⟩ := hrel
            by_cases hle : i ≤ xt
            · have hil : i < l.length := by omega
              have HE := Lib.hid (List.getElem?_eq_getElem hil)
              obtain ⟨ad', qq, EA⟩ := (HC.out.next V.below).at_ i _ HE.out
              cases qq
              obtain ⟨hbeg, htask⟩ := HN.out.on i _ hfi hle HE.out
              have hba := (begAt_of HE.out).trans hbeg
              generalize l[i] = e at *
              simp only at htask
              have HVS := Lib.hid (V.step hba)
              have HXS := Lib.hid (X1.far (q := ⟨g, i, none⟩) (by simp only; omega) (.int .i64 1))
              have g0 := V.cell hil
              have g1 := V.frozen i
              rw [show (decide (i < i) && begAt l i) = false from by simp] at g0
              simp only [Bool.false_eq_true, if_false] at g0
              obtain ⟨_, c0, c1, c2, c3, c4, c5⟩ := EA
              obtain ⟨_, x0, x1, x2, x3, xz⟩ := X1
              clear V hbeg hba xz
              subst htask
              go_wp2_with fail
              clear c0 c1 c2 c3 c4 c5 x0 x1 x2 x3 g0 g1
              generalize wr.setCell ⟨g, i, none⟩ (.int .i64 1) = W1 at *
              obtain ⟨ad', qq, EA1⟩ := (HC.out.next HVS.out.below).at_ i _ HE.out
              cases qq
              obtain ⟨_, c0, c1, c2, c3, c4, c5⟩ := EA1
              have x2 := HXS.out.c2
              go_quiet (fail)
              go_wp2_with fail
              go_roundw
              case rel => exact ⟨i + 1, by omega, by omega, by go_num, HVS.out.next (below_drewN _ _), _, HXS.out.next (below_drewN _ _)⟩
              case measure => simp [intOf]; omega
            · obtain rfl : i = xt + 1 := by omega
              obtain ⟨_, x0, x1, x2, x3, xz⟩ := X1
              have HVF := Lib.hid V
              have HRS := Lib.hid HN.out.rest
              clear V xz
              go_wp2_with fail
              go_roundw
              case rel => exact ⟨q + 1, xt + 1, by omega, by omega, by go_num, by go_num, HRS.out, HVF.out⟩
              case measure => simp [intOf]; omega
      · obtain rfl : q = a.length := by omega
        rw [List.drop_length] at hdr
        have HV := Lib.hid (V.skip hp (fun m e h1 _ h => atsL_nil (l.length - p) p rfl hdr.symm m e h1 h))
        clear V hdr
        go_wp2_with fail
        go_loopw [83] (fun s83 W => ∃ i : Nat, i ≤ l.length ∧ s83 = .int .i64 i ∧ CV w l l.length g A2 a W) (fun s83 _ => l.length - (intOf s83).toNat)
        case atStart => exact ⟨0, by omega, rfl, HV.out⟩
        case round =>
          obtain ⟨i, hi, rfl, V⟩ := hrel
          by_cases hil : i < l.length
          · have HE := Lib.hid (List.getElem?_eq_getElem hil)
            obtain ⟨ad, rfl, EA⟩ := (HC.out.next V.below).at_ i _ HE.out
            have hba := begAt_of HE.out
            generalize l[i] = e at *
            have HVN := Lib.hid (V.next (ba wr (.cells #[.int .i64 e.kind, .int .i64 e.time, .int .i64 e.task, .int .i64 e.n, .int .i16 e.value, .int .i64 e.port] 26)))
            have g0 := V.cell hil
            have hgl := V.glt
            rw [hba] at g0
            obtain ⟨_, c0, c1, c2, c3, c4, c5⟩ := EA
            clear V hba
            cases hbe : begE e
            · rw [hbe] at g0
              simp only [Bool.and_false, Bool.false_eq_true, if_false] at g0
              obtain ⟨ha, hk⟩ := not_beg hbe
              have k5 : (e.kind == 5) = false := by simpa using hk
              have k4 : (e.kind == 4) = false := by unfold actE at ha; simp at ha ⊢; omega
              have k12 : (e.kind == 12) = false := by unfold actE at ha; simp at ha ⊢; omega
              have k11 : (e.kind == 11) = false := by unfold actE at ha; simp at ha ⊢; omega
              clear ha hk hbe
              go_wp2_with fail
              go_roundw
              case rel => exact ⟨i + 1, by omega, by go_num, HVN.out⟩
              case measure => simp [intOf]; omega
            · rw [hbe, show (decide (i < l.length) && true) = true from by simp [hil]] at g0
              simp only [if_true] at g0
              have hor : (e.kind == 5) = true ∨ ((e.kind == 5) = false ∧ (e.kind == 4) = true) ∨ ((e.kind == 5) = false ∧ (e.kind == 4) = false ∧ (e.kind == 12) = true) ∨ ((e.kind == 5) = false ∧ (e.kind == 4) = false ∧ (e.kind == 12) = false ∧ (e.kind == 11) = true) := by
                unfold begE actE comK at hbe
                simp at hbe ⊢
                omega
              clear hbe
              rcases hor with k5 | ⟨k5, k4⟩ | ⟨k5, k4, k12⟩ | ⟨k5, k4, k12, k11⟩
              all_goals
                go_wp2_with fail
                go_roundw
                case rel => exact ⟨i + 1, by omega, by go_num, HVN.out⟩
                case measure => simp [intOf]; omega
          · obtain rfl : i = l.length := by omega
            go_wp2_with fail
            go_ret
            exact ⟨rfl, V.below⟩
theorem traceCover_f (l : List Ev) (hlm : (l.length : Int) ≤ 9223372036854775807) (_hb : InL l) (w : World) (hr : RdyF w) (A : Option Addr) (cap : Nat) (C : Evs w A l) : Calls Tryd.prog 8 #[.slice A l.length cap] w fun e w' => e = .returned (.bool true) ∧ Below w.heap.size w w' := traceCover_w l hlm A cap w hr.rdy C
end Go.Proofs.YtdfconiahfdhbaaDoor
