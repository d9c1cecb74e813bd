/-
  PowerTraceBudget.
-/
import Derived.Test.YtabfjiapoafgaaaDoorWmt
import Derived.Test.YtabfjiapoafgaaaDoorOpenL
namespace Go.Proofs.YtabfjiapoafgaaaDoor
open Go.RowKit
set_option linter.unusedVariables false
attribute [local go_sem ↓] Go.wp_at_zero Go.wp_at_succ

/-- between two failures -/
structure BJ (l : List (Int × Int)) (k : Nat) (lf u : Int) : Prop where
  ok : MOk l ⟨k, lf, false, k⟩
  a : ∀ h : k < l.length, u = l[k].1 - lf
  u0 : 0 ≤ u
theorem BJ.start {l : List (Int × Int)} (hv : validL l = true) : BJ l 0 (energyAt l 0) 0 := ⟨MOk.start hv, fun h => by rw [energyAt_lt h]; omega, by omega⟩
theorem BJ.fail {l : List (Int × Int)} (hv : validL l = true) {k : Nat} {lf u : Int} (h : BJ l k lf u) (hk : k < l.length) : BJ l (k + 1) (energyAt l (k + 1)) 0 := by
  refine ⟨⟨by show k + 1 ≤ _; omega, fun h => (by cases h), fun _ => energy_in hv (k + 1), rfl⟩, fun h => ?_, by omega⟩
  rw [energyAt_lt h]
  omega
theorem BJ.done {l : List (Int × Int)} {k : Nat} {lf u n : Int} (h : BJ l k lf u) (hn : 0 ≤ n) (hk : l.length ≤ k) : BJ l k lf (u + n) := ⟨h.ok, fun q => by omega, by have := h.u0; omega⟩
theorem BJ.use {l : List (Int × Int)} {k : Nat} {lf u n : Int} (h : BJ l k lf u) (hn : 0 ≤ n) (hk : k < l.length) (hl : n ≤ lf) : BJ l k (lf - n) (u + n) := by
  have h1 := (h.ok.lf rfl).1 hk
  refine ⟨⟨h.ok.le, fun h => (by cases h), fun _ => ⟨fun _ => ⟨by show 0 ≤ lf - n; omega, by have := h1.2; show lf - n ≤ _; simp only at this; omega⟩, fun q => absurd hk (by simp only at q; omega)⟩, rfl⟩, fun q => by have := h.a q; omega, by have := h.u0; omega⟩
theorem sp_done {l : List (Int × Int)} {k : Nat} {lf n : Int} (hk : l.length ≤ k) : spendM l ⟨k, lf, false, k⟩ n = (⟨k, lf, false, k⟩, true) := by
  unfold spendM
  rw [if_neg (by simp), if_pos hk]
theorem sp_use {l : List (Int × Int)} {k : Nat} {lf n : Int} (hn : 0 ≤ n) (hk : k < l.length) (hl : n ≤ lf) : spendM l ⟨k, lf, false, k⟩ n = (⟨k, lf - n, false, k⟩, true) := by
  unfold spendM
  rw [if_neg (by simp), if_neg (by show ¬ l.length ≤ k; omega), if_pos (by show max n 0 ≤ lf; omega), show max n 0 = n by omega]
theorem sp_fail {l : List (Int × Int)} {k : Nat} {lf n : Int} (hn : 0 ≤ n) (hk : k < l.length) (hl : ¬ n ≤ lf) : spendM l ⟨k, lf, false, k⟩ n = (⟨k, 0, true, k + 1⟩, false) := by
  unfold spendM
  rw [if_neg (by simp), if_neg (by show ¬ l.length ≤ k; omega), if_neg (by show ¬ max n 0 ≤ lf; omega)]
theorem nx_fail {l : List (Int × Int)} {k : Nat} (hk : k < l.length) : nextM l ⟨k, 0, true, k + 1⟩ = (⟨k + 1, energyAt l (k + 1), false, k + 1⟩, l[k].2, true) := by
  unfold nextM
  rw [if_pos rfl, offAt_lt hk]
set_option maxRecDepth 100000 in
set_option maxHeartbeats 4000000 in
theorem powerTraceBudget_w (l : List (Int × Int)) (sp : List Int) (hlm : l.length ≤ 8796093022208) (hsm : (sp.length : Int) ≤ 9223372036854775807) (hsp : ∀ x ∈ sp, B64 x) (A B : Option Addr) (cap cb : Nat) (w : World) (hr : Ready w) (C : Prs w A l) (D : Its .i64 w B sp) : Calls Tryd.prog 5 #[.slice A l.length cap, .slice B sp.length cb] w fun e w' => e = .returned (.bool true) ∧ Below w.heap.size w w' := by
  have HC := Lib.hid C
  have HD := Lib.hid D
  have HR := Lib.hid hr
  have HSP := Lib.hid hsp
  clear C D hsp hr
  go_enter Tryd.func5, Tryd.ntmps5
  go_wp2_with fail
  refine (copied_c l hlm A cap _ HC.out).mono ?_
  rintro e w1 ⟨A1, cap1, rfl, C1, hb1⟩
  have HB1 := Lib.hid hb1
  have HC1 := Lib.hid C1
  clear hb1 C1
  go_wp2_with fail
  refine (start_c l hlm A1 cap1 _ HC1.out).mono ?_
  rintro e w2 ⟨hst, hb2⟩
  have HB2 := Lib.hid (bt HB1.out hb2)
  have HEX := Lib.hid (fun W (h : Below w.heap.size w W) => examples_c W (HR.out.below h))
  by_cases hv : validL l = true
  · rw [if_pos hv] at hst
    obtain ⟨M, rfl, hM, K⟩ := hst
    have HV := Lib.hid hv
    have HM := Lib.hid (show w.heap.size ≤ M from Nat.le_trans HB1.out.size hM)
    have HK := Lib.hid K
    clear hv hM K hb2
    go_wp2_with fail
    refine (HEX.out _ HB2.out).mono ?_
    rintro e w3 ⟨rfl, hb3⟩
    have HB3 := Lib.hid (bt HB2.out hb3)
    have HK3 := Lib.hid (HK.out.next hb3)
    clear hb3 HK
    by_cases h60 : 60 < l.length
    · have h60I : (60 : Int) < (l.length : Int) := by omega
      go_wp2_with fail
      refine (HEX.out _ HB3.out).mono ?_
      rintro e w4 ⟨rfl, hb4⟩
      go_wp2_with fail
      go_ret
      exact ⟨rfl, bt HB3.out hb4⟩
    · by_cases h200 : 200 < sp.length
      · have h60I : ¬ (60 : Int) < (l.length : Int) := by omega
        have h200I : (200 : Int) < (sp.length : Int) := by omega
        go_wp2_with fail
        refine (HEX.out _ HB3.out).mono ?_
        rintro e w4 ⟨rfl, hb4⟩
        go_wp2_with fail
        go_ret
        exact ⟨rfl, bt HB3.out hb4⟩
      · have h60I : ¬ (60 : Int) < (l.length : Int) := by omega
        have h200I : ¬ (200 : Int) < (sp.length : Int) := by omega
        have hl : l.length ≤ 60 := by omega
        have hls : sp.length ≤ 200 := by omega
        have HJ0 := Lib.hid (BJ.start HV.out)
        unfold startM at HK3
        generalize energyAt l 0 = lf0 at *
        go_wp2_with fail
        go_loopw [7, 8, 42] (fun p u i wr => ∃ (j k : Nat) (lf us : Int), j ≤ sp.length ∧ i = .int .i64 j ∧ p = .int .i64 k ∧ u = .int .i64 us ∧ BJ l k lf us ∧ us ≤ 1099511627776 * ((j : Int) + 1) ∧ Below w.heap.size w wr ∧ MX M l ⟨k, lf, false, k⟩ wr) (fun _ _ i _ => sp.length - (intOf i).toNat)
        case atStart => exact ⟨0, 0, lf0, 0, by omega, rfl, rfl, rfl, HJ0.out, by omega, HB3.out, HK3.out⟩
        case round =>
          obtain ⟨j, k, lf, us, hj, rfl, rfl, rfl, J, hub, hbr, K⟩ := hrel
          have HJ := Lib.hid J
          have HB := Lib.hid hbr
          have HK := Lib.hid K
          have hu0 := J.u0
          have hkl : k ≤ l.length := J.ok.le
          by_cases hlt : j < sp.length
          · obtain ⟨bd, rfl, hbd, c0⟩ := (HD.out.next hbr).at_ j _ (List.getElem?_eq_getElem hlt)
            have hbx := HSP.out sp[j] (List.getElem_mem hlt)
            generalize sp[j] = n at *
            have hjI : (j : Int) < (sp.length : Int) := by omega
            have hj0 : (0 : Int) ≤ (j : Int) := by omega
            have hm0 : 0 ≤ max n 0 := by omega
            have hmB : max n 0 ≤ 9223372036854775807 := by unfold B64 at hbx; omega
            by_cases hbig : 1099511627776 < max n 0
            · clear K hbr J
              go_wp2_with fail
              all_goals
                go_ret
                exact ⟨rfl, HB.out⟩
            · by_cases hk : l.length ≤ k
              · have HSS := Lib.hid (fun W K => spend_x M l hl _ _ HJ.out.ok (max n 0) true (sp_done hk) W K)
                have hkI : ¬ (k : Int) < (l.length : Int) := by omega
                have HJ2 := Lib.hid (HJ.out.done (n := max n 0) hm0 hk)
                clear K hbr J
                go_wp2_with fail
                refine (HSS.out _ HK.out).mono ?_
                rintro e w5 ⟨rfl, K5, k5⟩
                have HB5 := Lib.hid (k5.below HB.out HB.out.size HM.out)
                have HK5 := Lib.hid K5
                clear K5 k5
                go_wp2_with fail
                case roundEnd =>
                  refine ⟨⟨j + 1, k, lf, us + max n 0, by omega, by rw [Int.natCast_add]; rfl, rfl, rfl, HJ2.out, by omega, HB5.out, HK5.out⟩, ?_⟩
                  show sp.length - ((j : Int) + 1).toNat < sp.length - ((j : Int)).toNat
                  omega
              · have hk' : k < l.length := by omega
                have hkI : (k : Int) < (l.length : Int) := by omega
                have hk0 : (0 : Int) ≤ (k : Int) := by omega
                have hlfr := (J.ok.lf rfl).1 hk'
                have hlf0 : 0 ≤ lf := hlfr.1
                have hlf1 : lf ≤ 1073741824 := hlfr.2
                have hua := J.a hk'
                by_cases hfit : max n 0 ≤ lf
                · have HSS := Lib.hid (fun W K => spend_x M l hl _ _ HJ.out.ok (max n 0) true (sp_use hm0 hk' hfit) W K)
                  have HJ2 := Lib.hid (HJ.out.use (n := max n 0) hm0 hk' hfit)
                  have hle : ¬ l[k].1 < us + max n 0 := by omega
                  clear K hbr J hlfr hua
                  go_wp2_with fail
                  refine (HSS.out _ HK.out).mono ?_
                  rintro e w5 ⟨rfl, K5, k5⟩
                  have HB5 := Lib.hid (k5.below HB.out HB.out.size HM.out)
                  have HK5 := Lib.hid K5
                  clear K5 k5
                  obtain ⟨ad, rfl, had, p0, -⟩ := (HC.out.next HB5.out).at_ k _ (List.getElem?_eq_getElem hk')
                  generalize l[k].1 = E at *
                  go_wp2_with fail
                  case roundEnd =>
                    refine ⟨⟨j + 1, k, lf - max n 0, us + max n 0, by omega, by rw [Int.natCast_add]; rfl, rfl, rfl, HJ2.out, by omega, HB5.out, HK5.out⟩, ?_⟩
                    show sp.length - ((j : Int) + 1).toNat < sp.length - ((j : Int)).toNat
                    omega
                · have HSS := Lib.hid (fun W K => spend_x M l hl _ _ HJ.out.ok (max n 0) false (sp_fail hm0 hk' hfit) W K)
                  have HJ2 := Lib.hid (HJ.out.fail HV.out hk')
                  have hokd : MOk l ⟨k, 0, true, k + 1⟩ := ⟨by show k ≤ _; omega, fun _ => ⟨hk', rfl⟩, fun h => (by cases h), rfl⟩
                  have HNX := Lib.hid (fun W K => next_x M l hl _ _ hokd _ true (nx_fail hk') W K)
                  have hle : l[k].1 < us + max n 0 := by omega
                  clear K hbr J hlfr hokd hua
                  go_wp2_with fail
                  refine (HSS.out _ HK.out).mono ?_
                  rintro e w5 ⟨rfl, K5, k5⟩
                  have HB5 := Lib.hid (k5.below HB.out HB.out.size HM.out)
                  have HK5 := Lib.hid K5
                  clear K5 k5
                  obtain ⟨ad, hA, had, p0, -⟩ := (HC.out.next HB5.out).at_ k _ (List.getElem?_eq_getElem hk')
                  subst hA
                  go_wp2_with fail
                  refine (HNX.out _ HK5.out).mono ?_
                  rintro e w6 ⟨rfl, K6, k6⟩
                  have HB6 := Lib.hid (k6.below HB5.out HB5.out.size HM.out)
                  have HK6 := Lib.hid K6
                  clear K6 k6 had p0
                  obtain ⟨ad', hA, had, -, p1⟩ := (HC.out.next HB6.out).at_ k _ (List.getElem?_eq_getElem hk')
                  cases hA
                  have p3 : w6.cell? ⟨(ad.add (k * 2)).block, (ad.add (k * 2)).off + 1, none⟩ = some (.int .i64 l[k].2) := by rw [← add_of_add] at p1; exact p1
                  clear p1
                  generalize l[k].2 = E2 at *
                  by_cases hk1 : k + 1 < l.length
                  · obtain ⟨ad', hA, -, p2, -⟩ := (HC.out.next HB6.out).at_ (k + 1) _ (List.getElem?_eq_getElem hk1)
                    cases hA
                    have hk1I : (k : Int) + 1 < (l.length : Int) := by omega
                    have hE : ¬ l[k + 1].1 < 0 := by
                      have := (energy_in HV.out (k + 1)).1 hk1
                      rw [energyAt_lt hk1] at this
                      omega
                    go_wp2_with fail
                    case roundEnd =>
                      refine ⟨⟨j + 1, k + 1, energyAt l (k + 1), 0, by omega, by rw [Int.natCast_add]; rfl, by rw [Int.natCast_add]; rfl, rfl, HJ2.out, by omega, HB6.out, HK6.out⟩, ?_⟩
                      show sp.length - ((j : Int) + 1).toNat < sp.length - ((j : Int)).toNat
                      omega
                  · have hk1I : ¬ (k : Int) + 1 < (l.length : Int) := by omega
                    go_wp2_with fail
                    case roundEnd =>
                      refine ⟨⟨j + 1, k + 1, energyAt l (k + 1), 0, by omega, by rw [Int.natCast_add]; rfl, by rw [Int.natCast_add]; rfl, rfl, HJ2.out, by omega, HB6.out, HK6.out⟩, ?_⟩
                      show sp.length - ((j : Int) + 1).toNat < sp.length - ((j : Int)).toNat
                      omega
          · obtain rfl : j = sp.length := by omega
            clear K hbr J
            go_wp2_with fail
            refine (periods_c M l _ _ HK.out).mono ?_
            rintro e w9 ⟨rfl, rfl⟩
            go_wp2_with fail
            go_ret
            exact ⟨rfl, HB.out⟩
  · rw [if_neg hv] at hst
    subst hst
    clear hv
    go_wp2_with fail
    refine (HEX.out _ HB2.out).mono ?_
    rintro e w3 ⟨rfl, hb3⟩
    have HB3 := Lib.hid (bt HB2.out hb3)
    clear hb3
    by_cases h60 : 60 < l.length
    · have h60I : (60 : Int) < (l.length : Int) := by omega
      go_wp2_with fail
      refine (HEX.out _ HB3.out).mono ?_
      rintro e w4 ⟨rfl, hb4⟩
      go_wp2_with fail
      go_ret
      exact ⟨rfl, bt HB3.out hb4⟩
    · by_cases h200 : 200 < sp.length
      · have h60I : ¬ (60 : Int) < (l.length : Int) := by omega
        have h200I : (200 : Int) < (sp.length : Int) := by omega
        go_wp2_with fail
        refine (HEX.out _ HB3.out).mono ?_
        rintro e w4 ⟨rfl, hb4⟩
        go_wp2_with fail
        go_ret
        exact ⟨rfl, bt HB3.out hb4⟩
      · have h60I : ¬ (60 : Int) < (l.length : Int) := by omega
        have h200I : ¬ (200 : Int) < (sp.length : Int) := by omega
        go_wp2_with fail
        refine (HEX.out _ HB3.out).mono ?_
        rintro e w4 ⟨rfl, hb4⟩
        go_wp2_with fail
        go_ret
        exact ⟨rfl, bt HB3.out hb4⟩
end Go.Proofs.YtabfjiapoafgaaaDoor
