/-
  examples: the examples of the chapter hold.
-/
import Derived.Test.YtabfjiapoafgaaaDoorPrs
import Derived.Test.YtabfjiapoafgaaaDoorMnx
import Derived.Test.YtabfjiapoafgaaaDoorFst
import Derived.Test.YtabfjiapoafgaaaDoorCnt
import Derived.Test.YtabfjiapoafgaaaDoorSam
namespace Go.Proofs.YtabfjiapoafgaaaDoor
open Go.RowKit
set_option linter.unusedVariables false
attribute [local go_sem ↓] Go.wp_at_zero Go.wp_at_succ

def exL : List (Int × Int) := [(40, 100), (0, 5)]
theorem d0 : Lib.decDigits 0 = [48] := by rw [Dec.decDigits_small (by decide)]; rfl
theorem d3 : Lib.decDigits 3 = [51] := by rw [Dec.decDigits_small (by decide)]; rfl
theorem d4 : Lib.decDigits 4 = [52] := by rw [Dec.decDigits_small (by decide)]; rfl
theorem d5 : Lib.decDigits 5 = [53] := by rw [Dec.decDigits_small (by decide)]; rfl
theorem d6 : Lib.decDigits 6 = [54] := by rw [Dec.decDigits_small (by decide)]; rfl
theorem d40 : Lib.decDigits 40 = [52, 48] := by rw [Dec.decDigits_big (by decide), Dec.decDigits_small (by decide)]; rfl
theorem d100 : Lib.decDigits 100 = [49, 48, 48] := by rw [Dec.decDigits_big (by decide), Dec.decDigits_big (by decide), Dec.decDigits_small (by decide)]; rfl
theorem wx1 : wordT (40, 100) = [52, 48] ++ [64] ++ [49, 48, 48] := by
  unfold wordT
  rw [Dec.itoa_nonneg (by decide), Dec.itoa_nonneg (by decide)]
  show Lib.decDigits 40 ++ [64] ++ Lib.decDigits 100 = _
  rw [d40, d100]
theorem wx2 : wordT (0, 5) = [48] ++ [64] ++ [53] := by
  unfold wordT
  rw [Dec.itoa_nonneg (by decide), Dec.itoa_nonneg (by decide)]
  show Lib.decDigits 0 ++ [64] ++ Lib.decDigits 5 = _
  rw [d0, d5]
theorem wx3 : wordT (0, 0) = [48] ++ [64] ++ [48] := by
  unfold wordT
  rw [Dec.itoa_nonneg (by decide)]
  show Lib.decDigits 0 ++ [64] ++ Lib.decDigits 0 = _
  rw [d0]
theorem wx4 : wordT (3, 4) = [51] ++ [64] ++ [52] := by
  unfold wordT
  rw [Dec.itoa_nonneg (by decide), Dec.itoa_nonneg (by decide)]
  show Lib.decDigits 3 ++ [64] ++ Lib.decDigits 4 = _
  rw [d3, d4]
theorem wx5 : wordT (5, 6) = [53] ++ [64] ++ [54] := by
  unfold wordT
  rw [Dec.itoa_nonneg (by decide), Dec.itoa_nonneg (by decide)]
  show Lib.decDigits 5 ++ [64] ++ Lib.decDigits 6 = _
  rw [d5, d6]
theorem fmt_two (x y : Int × Int) : fmtT [x, y] = wordT x ++ ([32] ++ wordT y) := by
  unfold fmtT
  rw [List.map_cons, List.map_cons, List.map_nil, join_two, join_one]
theorem exV : validL exL = true := by decide
theorem exS1 : (⟨#[52, 48, 64, 49, 48, 48, 32, 48, 64, 53]⟩ : ByteArray).data.toList = fmtT exL := by
  unfold exL
  rw [fmt_two, wx1, wx2]
  rfl
theorem exR1 {l : List (Int × Int)} {n e : Int} (h : PRes (⟨#[52, 48, 64, 49, 48, 48, 32, 48, 64, 53]⟩ : ByteArray).data.toList l n e) : l = exL ∧ n = 0 ∧ e = 0 := by
  rw [exS1] at h
  exact h.uniq (PRes.of_fmt exV)
theorem exR2 {l : List (Int × Int)} {n e : Int} (h : PRes (⟨#[52, 48, 64, 49, 48, 48, 32, 48, 64, 48]⟩ : ByteArray).data.toList l n e) : l = [] ∧ n = 2 ∧ e = 2 := by
  refine h.uniq (.inr ⟨by decide, [(40, 100)], wordT (0, 0) ++ 32 :: [], ?_, by decide, .inr ⟨by simp, stuck_word (wordT_no32 _) (fun x hx e => ?_), rfl, rfl, rfl⟩⟩)
  · rw [txt_cons, txt_nil, wx1, wx3]
    rfl
  · have := wordT_inj e
    subst this
    exact absurd hx (by decide)
theorem exF : fmtV [(3, 4), (5, 6)] = [51, 64, 52, 32, 53, 64, 54] := by
  rw [fmtV_t (by decide), fmt_two, wx4, wx5]
  rfl
theorem exOut : outN 2 1 7 100 = 7 := by decide
theorem exCnt : cntI 2 1 = 7 := by decide
theorem exSched {r : List (Int × Int)} (h : Sched 1 7 4 r) : r = [(0, 7), (1, 7)] := h.uniq ⟨[0, 1], ⟨by intro x hx; simp at hx; omega, by decide⟩, rfl⟩
theorem exSched0 {r : List (Int × Int)} (h : Sched 1 7 0 r) : r = [] := h.uniq ⟨[], IsK.zero 1, rfl⟩
/-- the meter of the examples -/
theorem m0 : MOk exL (startM exL) := MOk.start exV
theorem s1 : spendM exL (startM exL) 40 = (⟨0, 0, false, 0⟩, true) := by rfl
theorem s2 : spendM exL ⟨0, 0, false, 0⟩ 1 = (⟨0, 0, true, 1⟩, false) := by rfl
theorem s3 : nextM exL ⟨0, 0, true, 1⟩ = (⟨1, 0, false, 1⟩, 100, true) := by rfl
theorem s4 : spendM exL ⟨1, 0, false, 1⟩ 1 = (⟨1, 0, true, 2⟩, false) := by rfl
theorem s5 : nextM exL ⟨1, 0, true, 2⟩ = (⟨2, -1, false, 2⟩, 5, true) := by rfl
theorem s6 : spendM exL ⟨2, -1, false, 2⟩ 1073741824 = (⟨2, -1, false, 2⟩, true) := by rfl
theorem m1 : MOk exL ⟨0, 0, false, 0⟩ := by have := m0.spend 40; rw [s1] at this; exact this
theorem m2 : MOk exL ⟨0, 0, true, 1⟩ := by have := m1.spend 1; rw [s2] at this; exact this
theorem m3 : MOk exL ⟨1, 0, false, 1⟩ := by have := m2.next exV; rw [s3] at this; exact this
theorem m4 : MOk exL ⟨1, 0, true, 2⟩ := by have := m3.spend 1; rw [s4] at this; exact this
theorem m5 : MOk exL ⟨2, -1, false, 2⟩ := by have := m4.next exV; rw [s5] at this; exact this
section
variable {M : Nat} {w : World}
theorem c1 (K : MX M exL (startM exL) w) : Calls Tryd.prog 21 #[.pointer (some ⟨M, 0, none⟩), .int .i64 40] w fun e w' => e = .returned (.bool true) ∧ MX M exL ⟨0, 0, false, 0⟩ w' ∧ On M w w' := by
  have := spend_c M exL (by decide) _ m0 40 w K
  rw [s1] at this
  exact this
theorem c2 (K : MX M exL ⟨0, 0, false, 0⟩ w) : Calls Tryd.prog 21 #[.pointer (some ⟨M, 0, none⟩), .int .i64 1] w fun e w' => e = .returned (.bool false) ∧ MX M exL ⟨0, 0, true, 1⟩ w' ∧ On M w w' := by
  have := spend_c M exL (by decide) _ m1 1 w K
  rw [s2] at this
  exact this
theorem c3 (K : MX M exL ⟨0, 0, true, 1⟩ w) : Calls Tryd.prog 22 #[.pointer (some ⟨M, 0, none⟩)] w fun e w' => e = .returned (.tuple #[.int .i64 100, .bool true]) ∧ MX M exL ⟨1, 0, false, 1⟩ w' ∧ On M w w' := by
  have := next_c M exL (by decide) _ m2 w K
  rw [s3] at this
  exact this
theorem c4 (K : MX M exL ⟨1, 0, false, 1⟩ w) : Calls Tryd.prog 21 #[.pointer (some ⟨M, 0, none⟩), .int .i64 1] w fun e w' => e = .returned (.bool false) ∧ MX M exL ⟨1, 0, true, 2⟩ w' ∧ On M w w' := by
  have := spend_c M exL (by decide) _ m3 1 w K
  rw [s4] at this
  exact this
theorem c5 (K : MX M exL ⟨1, 0, true, 2⟩ w) : Calls Tryd.prog 22 #[.pointer (some ⟨M, 0, none⟩)] w fun e w' => e = .returned (.tuple #[.int .i64 5, .bool true]) ∧ MX M exL ⟨2, -1, false, 2⟩ w' ∧ On M w w' := by
  have := next_c M exL (by decide) _ m4 w K
  rw [s5] at this
  exact this
theorem c6 (K : MX M exL ⟨2, -1, false, 2⟩ w) : Calls Tryd.prog 21 #[.pointer (some ⟨M, 0, none⟩), .int .i64 1073741824] w fun e w' => e = .returned (.bool true) ∧ MX M exL ⟨2, -1, false, 2⟩ w' ∧ On M w w' := by
  have := spend_c M exL (by decide) _ m5 1073741824 w K
  rw [s6] at this
  exact this
end
theorem Prs.two (w : World) (a b c d : Int) (t : TypeId) : Prs (w.alloc (.cells #[.int .i64 a, .int .i64 b, .int .i64 c, .int .i64 d] t)) (some ⟨w.heap.size, 0, none⟩) [(a, b), (c, d)] :=
  ⟨fun j x hj => by
    match j with
    | 0 =>
      simp at hj
      subst hj
      exact ⟨_, rfl, by simp, (World.cell?_alloc_at _ _ _ _ rfl).trans rfl, (World.cell?_alloc_at _ _ _ _ rfl).trans rfl⟩
    | 1 =>
      simp at hj
      subst hj
      exact ⟨_, rfl, by simp, (World.cell?_alloc_at _ _ _ _ rfl).trans rfl, (World.cell?_alloc_at _ _ _ _ rfl).trans rfl⟩
    | j + 2 => simp at hj⟩
theorem start_ex (w : World) : Calls Tryd.prog 20 #[.slice (some ⟨w.heap.size, 0, none⟩) 2 2] (w.alloc (.cells #[.int .i64 40, .int .i64 100, .int .i64 0, .int .i64 5] 38)) fun e w' => ∃ M, e = .returned (.tuple #[.pointer (some ⟨M, 0, none⟩), .int .i64 0]) ∧ w.heap.size ≤ M ∧ MX M exL (startM exL) w' ∧ Below w.heap.size w w' := by
  refine (start_c exL (by decide) _ 2 _ (Prs.two w 40 100 0 5 38)).mono ?_
  rintro e w' ⟨h, hb⟩
  rw [if_pos exV] at h
  obtain ⟨M, he, hM, K⟩ := h
  exact ⟨M, he, by simp at hM; omega, K, bt (ba w _) hb⟩
theorem format_ex (w : World) (hr : Ready w) : Calls Tryd.prog 12 #[.slice (some ⟨w.heap.size, 0, none⟩) 2 2] (w.alloc (.cells #[.int .i64 3, .int .i64 4, .int .i64 5, .int .i64 6] 38)) fun e w' => e = .returned (.string ⟨#[51, 64, 52, 32, 53, 64, 54]⟩) ∧ Below w.heap.size w w' := by
  have := format_c [(3, 4), (5, 6)] (by decide) _ 2 _ (hr.below (ba w _)) (Prs.two w 3 4 5 6 38)
  rw [exF] at this
  exact this.mono fun e w' h => ⟨h.1, bt (ba w _) h.2⟩
set_option maxRecDepth 100000 in
set_option maxHeartbeats 4000000 in
theorem examples_c (w : World) (hr : Ready w) : Calls Tryd.prog 11 #[] w fun e w' => e = .returned (.bool true) ∧ Below w.heap.size w w' := by
  have HR := Lib.hid hr
  have HP1 := Lib.hid (parse_c ⟨#[52, 48, 64, 49, 48, 48, 32, 48, 64, 53]⟩ (by decide) w hr)
  have HP2 := Lib.hid (fun W h => parse_c ⟨#[52, 48, 64, 49, 48, 48, 32, 48, 64, 48]⟩ (by decide) W h)
  clear hr
  go_enter Tryd.func11, Tryd.ntmps11
  go_wp2_with fail
  refine HP1.out.mono ?_
  rintro e w1 ⟨A, cap, l, n, er, rfl, hp, C, hb1⟩
  obtain ⟨rfl, rfl, rfl⟩ := exR1 hp
  have HC := Lib.hid C
  have HB1 := Lib.hid hb1
  clear hp C hb1
  go_wp2_with fail
  refine (HP2.out _ (HR.out.below HB1.out)).mono ?_
  rintro e w2 ⟨A2, cap2, l2, n2, er2, rfl, hp2, C2, hb2⟩
  obtain ⟨rfl, rfl, rfl⟩ := exR2 hp2
  have HB2 := Lib.hid hb2
  clear hp2 C2 hb2 HP1 HP2
  go_wp2_with fail
  refine (start_ex _).mono ?_
  rintro e w3 ⟨M, rfl, hM, K, hb3⟩
  have HB3 := Lib.hid (bt HB2.out hb3)
  have HM := Lib.hid (show w1.heap.size ≤ M from Nat.le_trans HB2.out.size hM)
  clear hb3 hM
  have HK := Lib.hid K
  clear K
  go_wp2_with fail
  refine (c1 HK.out).mono ?_
  rintro e w4 ⟨rfl, K4, o4⟩
  have HK4 := Lib.hid K4
  have HB4 := Lib.hid (o4.below HB3.out HB3.out.size HM.out)
  clear K4 o4 HK
  go_wp2_with fail
  refine (c2 HK4.out).mono ?_
  rintro e w5 ⟨rfl, K5, o5⟩
  have HK5 := Lib.hid K5
  have HB5 := Lib.hid (o5.below HB4.out HB4.out.size HM.out)
  clear K5 o5 HK4
  go_wp2_with fail
  refine (c3 HK5.out).mono ?_
  rintro e w6 ⟨rfl, K6, o6⟩
  have HK6 := Lib.hid K6
  have HB6 := Lib.hid (o6.below HB5.out HB5.out.size HM.out)
  clear K6 o6 HK5
  go_wp2_with fail
  refine (c4 HK6.out).mono ?_
  rintro e w7 ⟨rfl, K7, o7⟩
  have HK7 := Lib.hid K7
  have HB7 := Lib.hid (o7.below HB6.out HB6.out.size HM.out)
  clear K7 o7 HK6
  go_wp2_with fail
  refine (c5 HK7.out).mono ?_
  rintro e w8 ⟨rfl, K8, o8⟩
  have HK8 := Lib.hid K8
  have HB8 := Lib.hid (o8.below HB7.out HB7.out.size HM.out)
  clear K8 o8 HK7
  go_wp2_with fail
  refine (first_any 2 1 7 100 (by decide) (by decide) (by decide) _).mono ?_
  rintro e w9 ⟨v, vs, Ls, rfl, hown, hfin, hfl, hb9⟩
  rw [exOut] at hfl
  have h7 := hfl.len
  obtain ⟨A9, cap9, rfl, -⟩ := Rws.of_own hown hfin
  have HB9 := Lib.hid (bt HB8.out hb9)
  have HK9 := Lib.hid (HK8.out.next hb9)
  have HMlt := Lib.hid HK8.out.lt
  have HFI := Lib.hid (And.intro hown (And.intro hfin hfl))
  rw [h7]
  obtain ⟨ad, rfl, -, l0, l1⟩ := (HC.out.next HB9.out).at_ 0 (40, 100) rfl
  obtain ⟨ad', e', -, l2, l3⟩ := (HC.out.next HB9.out).at_ 1 (0, 5) rfl
  cases e'
  have q0 : w9.cell? ad = some (.int .i64 40) := l0
  have q1 : w9.cell? ⟨ad.block, ad.off + 1, none⟩ = some (.int .i64 100) := l1
  have q2 : w9.cell? ⟨ad.block, ad.off + 2, none⟩ = some (.int .i64 0) := l2
  have q3 : w9.cell? ⟨ad.block, ad.off + 3, none⟩ = some (.int .i64 5) := l3
  have hex : exL.length = 2 := rfl
  have HRD := Lib.hid (HR.out.below (bt HB1.out HB9.out))
  clear hown hfin hfl hb9 l0 l1 l2 l3 HB2 HB3 HB4 HB5 HB6 HB7 HK8
  rw [hex]
  clear hex
  go_wp2_with fail
  refine (c6 HK9.out).mono ?_
  rintro e wA ⟨rfl, KA, oA⟩
  have HKA := Lib.hid KA
  have HBA := Lib.hid (oA.below HB9.out HB9.out.size HM.out)
  have HRA := Lib.hid (HR.out.below (bt HB1.out HBA.out))
  have hownA := HFI.out.1.kept oA (.inr (fun e => by have := (HFI.out.1.lt _ e).1; have := HMlt.out; omega))
  have hfinA := HFI.out.2.1.grown oA (fun x hx g hg e => by
    obtain ⟨j, r', _, _, hr⟩ := HFI.out.2.1.at_ hx
    have h1 := (hr.lt _ hg).1
    have h2 := HMlt.out
    cases e
    omega)
  obtain ⟨AA, capA, hv, R⟩ := Rws.of_own hownA hfinA
  cases hv
  have e0 := List.getElem?_eq_getElem (l := Ls) (i := 0) (by omega)
  have e4 := List.getElem?_eq_getElem (l := Ls) (i := 4) (by omega)
  rw [exSched0 (HFI.out.2.2.at_ 0 _ e0)] at e0
  rw [exSched (HFI.out.2.2.at_ 4 _ e4)] at e4
  obtain ⟨bd, B0, k0, rfl, hb0, z0, -⟩ := R.at_ 0 _ e0
  obtain ⟨bd', B4, k4, hbe, hb4, z4, P4⟩ := R.at_ 4 _ e4
  cases hbe
  obtain ⟨cd, rfl, -, y2, y3⟩ := P4.at_ 1 (1, 7) rfl
  have t0 : wA.cell? bd = some (.slice B0 0 k0) := z0
  have t4 : wA.cell? ⟨bd.block, bd.off + 4, none⟩ = some (.slice (some cd) 2 k4) := z4
  have t5 : wA.cell? ⟨cd.block, cd.off + 2, none⟩ = some (.int .i64 1) := y2
  have t6 : wA.cell? ⟨cd.block, cd.off + 3, none⟩ = some (.int .i64 7) := y3
  clear KA oA hownA hfinA e0 e4 z0 z4 y2 y3 hb0 hb4 P4 R q0 q1 q2 q3 h7
  go_wp2_with fail
  refine (left_c M exL _ _ HKA.out).mono ?_
  rintro e wB ⟨rfl, rfl⟩
  go_wp2_with fail
  refine (periods_c M exL _ _ HKA.out).mono ?_
  rintro e wC ⟨rfl, rfl⟩
  go_wp2_with fail
  refine (count_c 2 1 (by decide) _).mono ?_
  rintro e wD ⟨rfl, hbD⟩
  rw [exCnt]
  have HBD := Lib.hid (bt HBA.out hbD)
  have HRDD := Lib.hid (HRA.out.below hbD)
  clear t0 t4 t5 t6 hbD
  go_wp2_with fail
  refine (format_ex _ HRDD.out).mono ?_
  rintro e wE ⟨rfl, hbE⟩
  have HBE := Lib.hid (bt HB1.out (bt HBD.out hbE))
  clear hbE
  go_wp2_with fail
  go_ret
  exact ⟨rfl, HBE.out⟩
end Go.Proofs.YtabfjiapoafgaaaDoor
