/-
  PowerTraceMeter.
-/
import Derived.Test.YtabfjiapoafgaaaDoorExm
import Derived.Test.YtabfjiapoafgaaaDoorWfm
import Derived.BigQuiet
namespace Go.Proofs.YtabfjiapoafgaaaDoor
open Go.RowKit
set_option linter.unusedVariables false
attribute [local go_sem ↓] Go.wp_at_zero Go.wp_at_succ

/-- the two meters: the reference's in block X (state s), the given one in block M (state t) -/
structure LM (w : World) (X M : Nat) (A : Option Addr) (cap : Nat) (l : List (Int × Int)) (s t : MS) (W : World) : Prop where
  below : Below w.heap.size w W
  mge : w.heap.size ≤ M
  mx : M < X
  xlt : X < W.heap.size
  x0 : W.cell? ⟨X, 0, none⟩ = some (.slice A l.length cap)
  x1 : W.cell? ⟨X, 1, none⟩ = some (.int .i64 s.k)
  x2 : W.cell? ⟨X, 2, none⟩ = some (.int .i64 s.left)
  x3 : W.cell? ⟨X, 3, none⟩ = some (.bool s.dark)
  x4 : W.cell? ⟨X, 4, none⟩ = some (.int .i64 s.cnt)
  fx : ∀ i, W.frozen? ⟨X, i, none⟩ = false
  m : MX M l t W
section
variable {w W W' : World} {X M cap : Nat} {A : Option Addr} {l : List (Int × Int)} {s t : MS}
theorem LM.next (h : LM w X M A cap l s t W) (hb : Below W.heap.size W W') : LM w X M A cap l s t W' := by
  obtain ⟨hc, hf⟩ := bcell hb
  have hx := h.xlt
  exact ⟨bt h.below hb, h.mge, h.mx, Nat.lt_of_lt_of_le hx hb.size, (hc _ _ hx).trans h.x0, (hc _ _ hx).trans h.x1, (hc _ _ hx).trans h.x2, (hc _ _ hx).trans h.x3, (hc _ _ hx).trans h.x4, fun i => (hf _ _ hx).trans (h.fx i), h.m.next hb⟩
/-- the given meter turns -/
theorem LM.turnM (h : LM w X M A cap l s t W) {t' : MS} (k : On M W W') (hm : MX M l t' W') : LM w X M A cap l s t' W' := by
  have hx := h.xlt
  have h1 := h.mge
  have h2 := h.mx
  have hsz := h.below.size
  have hb : W'.heap[X]? = W.heap[X]? := k.block X hx (fun e => by have := Option.some.inj e; omega)
  have hc : ∀ i, W'.cell? ⟨X, i, none⟩ = W.cell? ⟨X, i, none⟩ := fun i => World.cell?_of_block hb
  have hf : ∀ i, W'.frozen? ⟨X, i, none⟩ = W.frozen? ⟨X, i, none⟩ := fun i => World.frozen?_of_block hb
  exact ⟨k.below h.below hsz h1, h1, h2, Nat.lt_of_lt_of_le hx k.size, (hc 0).trans h.x0, (hc 1).trans h.x1, (hc 2).trans h.x2, (hc 3).trans h.x3, (hc 4).trans h.x4, fun i => (hf i).trans (h.fx i), hm⟩
/-- the reference's meter is stored -/
theorem LM.putX (h : LM w X M A cap l s t W) (s' : MS) : LM w X M A cap l s' t (((((W.setCell ⟨X, 0, none⟩ (.slice A l.length cap)).setCell ⟨X, 1, none⟩ (.int .i64 s'.k)).setCell ⟨X, 2, none⟩ (.int .i64 s'.left)).setCell ⟨X, 3, none⟩ (.bool s'.dark)).setCell ⟨X, 4, none⟩ (.int .i64 s'.cnt)) := by
  obtain ⟨hb, h1, h2, hx, x0, x1, x2, x3, x4, fx, hm⟩ := h
  have hsz := hb.size
  have k : On X W (((((W.setCell ⟨X, 0, none⟩ (.slice A l.length cap)).setCell ⟨X, 1, none⟩ (.int .i64 s'.k)).setCell ⟨X, 2, none⟩ (.int .i64 s'.left)).setCell ⟨X, 3, none⟩ (.bool s'.dark)).setCell ⟨X, 4, none⟩ (.int .i64 s'.cnt)) := (((((On.refl X W).set 0 _).set 1 _).set 2 _).set 3 _).set 4 _
  refine ⟨k.below hb hsz (by omega), h1, h2, Nat.lt_of_lt_of_le hx k.size, ?_, ?_, ?_, ?_, ?_, fun i => by simpa using fx i, hm.far k h2⟩
  all_goals go_simp
end
theorem LM.start {w W : World} {M cap : Nat} {A : Option Addr} {l : List (Int × Int)} {s t : MS} (hb : Below w.heap.size w W) (hM : w.heap.size ≤ M) (hm : MX M l t W) : LM w W.heap.size M A cap l s t (W.alloc (.cells #[.slice A l.length cap, .int .i64 s.k, .int .i64 s.left, .bool s.dark, .int .i64 s.cnt] 55)) :=
  ⟨bt hb (ba W _), hM, hm.lt, by simp, (World.cell?_alloc_at _ _ _ _ rfl).trans rfl, (World.cell?_alloc_at _ _ _ _ rfl).trans rfl, (World.cell?_alloc_at _ _ _ _ rfl).trans rfl, (World.cell?_alloc_at _ _ _ _ rfl).trans rfl, (World.cell?_alloc_at _ _ _ _ rfl).trans rfl, fun i => World.frozen?_alloc_at _ _ _ _ rfl, hm.next (ba W _)⟩
theorem rspend_x (l : List (Int × Int)) (hl : l.length ≤ 60) (s s' : MS) (ok : MOk l s) (n : Int) (b : Bool) (hs : spendM l s n = (s', b)) (A : Option Addr) (cap : Nat) (w : World) : Calls Tryd.prog 29 #[.agg #[.slice A l.length cap, .int .i64 s.k, .int .i64 s.left, .bool s.dark, .int .i64 s.cnt], .int .i64 n] w fun e w' => e = .returned (.tuple #[.agg #[.slice A l.length cap, .int .i64 s'.k, .int .i64 s'.left, .bool s'.dark, .int .i64 s'.cnt], .bool b]) ∧ Below w.heap.size w w' := by
  have := rspend_c l (by omega) s ok n A cap w
  rw [hs] at this
  exact this
theorem spend_x (M : Nat) (l : List (Int × Int)) (hl : l.length ≤ 60) (s s' : MS) (ok : MOk l s) (n : Int) (b : Bool) (hs : spendM l s n = (s', b)) (w : World) (K : MX M l s w) : Calls Tryd.prog 21 #[.pointer (some ⟨M, 0, none⟩), .int .i64 n] w fun e w' => e = .returned (.bool b) ∧ MX M l s' w' ∧ On M w w' := by
  have := spend_c M l (by omega) s ok n w K
  rw [hs] at this
  exact this
theorem rnext_x (l : List (Int × Int)) (hl : l.length ≤ 60) (s s' : MS) (ok : MOk l s) (q : Int) (b : Bool) (hs : nextM l s = (s', q, b)) (A : Option Addr) (cap : Nat) (w : World) (C : Prs w A l) : Calls Tryd.prog 30 #[.agg #[.slice A l.length cap, .int .i64 s.k, .int .i64 s.left, .bool s.dark, .int .i64 s.cnt]] w fun e w' => e = .returned (.tuple #[.agg #[.slice A l.length cap, .int .i64 s'.k, .int .i64 s'.left, .bool s'.dark, .int .i64 s'.cnt], .int .i64 q, .bool b]) ∧ Below w.heap.size w w' := by
  have := rnext_c l (by omega) s ok A cap w C
  rw [hs] at this
  exact this
theorem next_x (M : Nat) (l : List (Int × Int)) (hl : l.length ≤ 60) (s s' : MS) (ok : MOk l s) (q : Int) (b : Bool) (hs : nextM l s = (s', q, b)) (w : World) (K : MX M l s w) : Calls Tryd.prog 22 #[.pointer (some ⟨M, 0, none⟩)] w fun e w' => e = .returned (.tuple #[.int .i64 q, .bool b]) ∧ MX M l s' w' ∧ On M w w' := by
  have := next_c M l (by omega) s ok w K
  rw [hs] at this
  exact this
set_option maxRecDepth 100000 in
set_option maxHeartbeats 4000000 in
theorem powerTraceMeter_w (l acts : List (Int × Int)) (hlm : (l.length : Int) ≤ 9223372036854775807) (ham : (acts.length : Int) ≤ 9223372036854775807) (hin : InP acts) (A B : Option Addr) (cap cb : Nat) (w : World) (hr : Ready w) (C : Prs w A l) (D : Prs w B acts) : Calls Tryd.prog 10 #[.slice A l.length cap, .slice B acts.length cb] w fun e w' => e = .returned (.bool true) ∧ Below w.heap.size w w' := by
  have HC := Lib.hid C
  have HD := Lib.hid D
  have HR := Lib.hid hr
  have HIN := Lib.hid hin
  clear C D hin
  go_enter Tryd.func10, Tryd.ntmps10
  go_wp2_with fail
  refine (examples_c _ hr).mono ?_
  rintro e w1 ⟨rfl, hb1⟩
  have HB1 := Lib.hid hb1
  clear hb1 hr
  by_cases h60 : 60 < l.length
  · have h60I : (60 : Int) < (l.length : Int) := by omega
    go_wp2_with fail
    refine (examples_c _ (HR.out.below HB1.out)).mono ?_
    rintro e w2 ⟨rfl, hb2⟩
    go_wp2_with fail
    go_ret
    exact ⟨rfl, bt HB1.out hb2⟩
  · by_cases h200 : 200 < acts.length
    · have h60I : ¬ (60 : Int) < (l.length : Int) := by omega
      have h200I : (200 : Int) < (acts.length : Int) := by omega
      go_wp2_with fail
      refine (examples_c _ (HR.out.below HB1.out)).mono ?_
      rintro e w2 ⟨rfl, hb2⟩
      go_wp2_with fail
      go_ret
      exact ⟨rfl, bt HB1.out hb2⟩
    · have h60I : ¬ (60 : Int) < (l.length : Int) := by omega
      have h200I : ¬ (200 : Int) < (acts.length : Int) := by omega
      have hl : l.length ≤ 60 := by omega
      have hla : acts.length ≤ 200 := by omega
      go_wp2_with fail
      refine (copied_c l (by omega) A cap _ (HC.out.next HB1.out)).mono ?_
      rintro e w2 ⟨A2, cap2, rfl, C2, hb2⟩
      have HB2 := Lib.hid (bt HB1.out hb2)
      have HC2 := Lib.hid C2
      clear hb2 C2
      go_wp2_with fail
      refine (start_c l (by omega) A2 cap2 _ HC2.out).mono ?_
      rintro e w3 ⟨hst, hb3⟩
      have HB3 := Lib.hid (bt HB2.out hb3)
      by_cases hv : validL l = true
      · rw [if_pos hv] at hst
        obtain ⟨M, rfl, hM, K⟩ := hst
        have HV := Lib.hid hv
        have HM := Lib.hid (show w.heap.size ≤ M from Nat.le_trans HB2.out.size hM)
        have HK := Lib.hid K
        have HRV := Lib.hid (rvalidS_c l (by omega) A cap _ (HC.out.next HB3.out))
        rw [hv] at HRV
        clear hv hM K hb3
        go_wp2_with fail
        refine HRV.out.mono ?_
        rintro e w4 ⟨rfl, hb4⟩
        have HB4 := Lib.hid (bt HB3.out hb4)
        have HK4 := Lib.hid (HK.out.next hb4)
        clear hb4 HK HRV
        go_wp2_with fail
        refine (rstart_c l (by omega) A cap _ (HC.out.next HB4.out)).mono ?_
        rintro e w5 ⟨rfl, hb5⟩
        have HB5 := Lib.hid (bt HB4.out hb5)
        have HK5 := Lib.hid (HK4.out.next hb5)
        clear hb5 HK4
        have HOK0 := Lib.hid (MOk.start HV.out)
        unfold rvM
        have HL0 := Lib.hid (LM.start (A := A) (cap := cap) (s := startM l) HB5.out HM.out HK5.out)
        generalize startM l = s0 at *
        clear HB1 HB2 HB3 HB4 HC2
        go_wp2_with fail
        generalize w5.heap.size = X at *
        go_loopw [55] (fun i wr => ∃ (j : Nat) (s : MS), j ≤ acts.length ∧ i = .int .i64 j ∧ MOk l s ∧ LM w X M A cap l s s wr) (fun i _ => acts.length - (intOf i).toNat)
        case atStart => exact ⟨0, s0, by omega, rfl, HOK0.out, HL0.out⟩
        case round =>
          obtain ⟨j, s, hj, rfl, ok, K⟩ := hrel
          have HKR := Lib.hid K
          have HOK := Lib.hid ok
          by_cases hlt : j < acts.length
          · obtain ⟨bd, rfl, hbd, c0, c1⟩ := (HD.out.next K.below).at_ j _ (List.getElem?_eq_getElem hlt)
            rw [← add_of_add, add_one] at c1
            have hbx := HIN.out acts[j] (List.getElem_mem hlt)
            generalize acts[j] = x at *
            obtain ⟨kd, n⟩ := x
            have hjI : (j : Int) < (acts.length : Int) := by omega
            have hj0 : (0 : Int) ≤ (j : Int) := by omega
            have N0 := new_period wr kd n 58
            have K1 := K.next (ba wr (.cells #[.int .i64 kd, .int .i64 n] 58))
            have hXY : X < wr.heap.size := K.xlt
            have hne : ¬ X = wr.heap.size := by omega
            have hYl : wr.heap.size < (wr.alloc (.cells #[.int .i64 kd, .int .i64 n] 58)).heap.size := by simp
            by_cases hk : kd = 0
            · have hkI : (kd == 0) = true := by simpa using hk
              obtain ⟨p, hp⟩ : ∃ p, spendM l s n = p := ⟨_, rfl⟩
              obtain ⟨s', b⟩ := p
              have HOK' := Lib.hid (show MOk l s' from by have := ok.spend n; rw [hp] at this; exact this)
              have HRS := Lib.hid (fun W => rspend_x l hl s s' ok n b hp (A := A) (cap := cap) W)
              have HSS := Lib.hid (fun W K => spend_x M l hl s s' ok n b hp W K)
              have HK1 := Lib.hid K1
              have HN0 := Lib.hid N0
              obtain ⟨_, _, _, _, x0, x1, x2, x3, x4, _, _⟩ := K
              clear hk hp ok K1 N0
              go_wp2_with fail
              refine (HRS.out _).mono ?_
              rintro e w6 ⟨rfl, hb6⟩
              have K6 := HK1.out.next hb6
              have HL8 := Lib.hid ((K6.putX s').next (ba _ (.cells #[.slice A l.length cap, .int .i64 s'.k, .int .i64 s'.left, .bool s'.dark, .int .i64 s'.cnt] 55)))
              obtain ⟨_, _, _, hX6, v0, v1, v2, v3, v4, vf, _⟩ := K6
              have z0 := vf 0
              have z1 := vf 1
              have z2 := vf 2
              have z3 := vf 3
              have z4 := vf 4
              have yy1 := ((bcell hb6).1 wr.heap.size 1 hYl).trans HN0.out.2
              have hY6 : wr.heap.size < w6.heap.size := Nat.lt_of_lt_of_le hYl hb6.size
              clear hb6 vf x0 x1 x2 x3 x4
              go_wp2_with fail
              refine (HSS.out _ HL8.out.m).mono ?_
              rintro e w9 ⟨rfl, hm9, on9⟩
              have L9 := HL8.out.turnM on9 hm9
              have HL9 := Lib.hid L9
              clear hm9 on9 v0 v1 v2 v3 v4 z0 z1 z2 z3 z4 yy1
              obtain ⟨_, _, _, hx9, y0, y1, y2, y3, y4, _, _⟩ := L9
              have HKF := Lib.hid (fun n => failed_c M l s' (w9.drewN n) (HL9.out.m.next (below_drewN w9 n)))
              have HKL := Lib.hid (fun n => left_c M l s' (w9.drewN n) (HL9.out.m.next (below_drewN w9 n)))
              have HKP := Lib.hid (fun n => periods_c M l s' (w9.drewN n) (HL9.out.m.next (below_drewN w9 n)))
              go_wp2_with fail
              go_quiet (first
                | (go_at_call 31; exact Calls.quiet_of_same (HKF.out _))
                | (go_at_call 32; exact Calls.quiet_of_same (HKL.out _))
                | (go_at_call 23; exact Calls.quiet_of_same (HKP.out _)))
              go_wp2_with fail
              go_roundw
              case rel => exact ⟨j + 1, s', by omega, by go_num, HOK'.out, HL9.out.next (below_drewN w9 _)⟩
              case measure => simp [intOf]; omega
            · have hkI : (kd == 0) = false := by simpa using hk
              obtain ⟨p, hp⟩ : ∃ p, nextM l s = p := ⟨_, rfl⟩
              obtain ⟨s', q, b⟩ := p
              have HOK' := Lib.hid (show MOk l s' from by have := ok.next HV.out; rw [hp] at this; exact this)
              have HRS := Lib.hid (fun W C => rnext_x l hl s s' ok q b hp A cap W C)
              have HSS := Lib.hid (fun W K => next_x M l hl s s' ok q b hp W K)
              have HK1 := Lib.hid K1
              obtain ⟨_, _, _, _, x0, x1, x2, x3, x4, _, _⟩ := K
              clear hk hp ok K1 N0
              go_wp2_with fail
              refine (HRS.out _ (HC.out.next HK1.out.below)).mono ?_
              rintro e w6 ⟨rfl, hb6⟩
              have K6 := HK1.out.next hb6
              have HL8 := Lib.hid ((K6.putX s').next (ba _ (.cells #[.slice A l.length cap, .int .i64 s'.k, .int .i64 s'.left, .bool s'.dark, .int .i64 s'.cnt] 55)))
              obtain ⟨_, _, _, hX6, v0, v1, v2, v3, v4, vf, _⟩ := K6
              have z0 := vf 0
              have z1 := vf 1
              have z2 := vf 2
              have z3 := vf 3
              have z4 := vf 4
              clear hb6 vf x0 x1 x2 x3 x4
              go_wp2_with fail
              refine (HSS.out _ HL8.out.m).mono ?_
              rintro e w9 ⟨rfl, hm9, on9⟩
              have L9 := HL8.out.turnM on9 hm9
              have HL9 := Lib.hid L9
              clear hm9 on9 v0 v1 v2 v3 v4 z0 z1 z2 z3 z4
              obtain ⟨_, _, _, hx9, y0, y1, y2, y3, y4, _, _⟩ := L9
              have HKF := Lib.hid (fun n => failed_c M l s' (w9.drewN n) (HL9.out.m.next (below_drewN w9 n)))
              have HKL := Lib.hid (fun n => left_c M l s' (w9.drewN n) (HL9.out.m.next (below_drewN w9 n)))
              have HKP := Lib.hid (fun n => periods_c M l s' (w9.drewN n) (HL9.out.m.next (below_drewN w9 n)))
              go_wp2_with fail
              go_quiet (first
                | (go_at_call 31; exact Calls.quiet_of_same (HKF.out _))
                | (go_at_call 32; exact Calls.quiet_of_same (HKL.out _))
                | (go_at_call 23; exact Calls.quiet_of_same (HKP.out _)))
              go_wp2_with fail
              go_roundw
              case rel => exact ⟨j + 1, s', by omega, by go_num, HOK'.out, HL9.out.next (below_drewN w9 _)⟩
              case measure => simp [intOf]; omega
          · obtain rfl : j = acts.length := by omega
            have HBK := Lib.hid K.below
            clear K ok
            go_wp2_with fail
            go_ret
            exact ⟨rfl, HBK.out⟩
      · rw [if_neg hv] at hst
        subst hst
        have hv' : validL l = false := by simpa using hv
        have HRV := Lib.hid (rvalidS_c l (by omega) A cap _ (HC.out.next HB3.out))
        rw [hv'] at HRV
        clear hv hv' hb3
        go_wp2_with fail
        refine HRV.out.mono ?_
        rintro e w4 ⟨rfl, hb4⟩
        go_wp2_with fail
        go_ret
        exact ⟨rfl, bt HB3.out hb4⟩
end Go.Proofs.YtabfjiapoafgaaaDoor
