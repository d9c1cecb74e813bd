/-
  PowerTraceComplete.
-/
import Derived.Test.YtabfjiapoafgaaaDoorWall
import Derived.Test.YtabfjiapoafgaaaDoorOpenL
namespace Go.Proofs.YtabfjiapoafgaaaDoor
open Go.RowKit
set_option linter.unusedVariables false
attribute [local go_sem ↓] Go.wp_at_zero Go.wp_at_succ

/-- a byte as an energy -/
def dN (m : Nat) (x : Int) : Nat := x.toNat % (m + 1)
def enL (m : Nat) (es : List Int) : List Nat := es.map (dN m)
theorem enL_len (m : Nat) (es : List Int) : (enL m es).length = es.length := by unfold enL; simp
theorem enL_dig (m : Nat) (es : List Int) : Dig m (enL m es) := fun x hx => by
  obtain ⟨y, -, rfl⟩ := List.mem_map.1 hx
  have := Nat.mod_lt y.toNat (show 0 < m + 1 by omega)
  show dN m y ≤ m
  unfold dN
  omega
theorem enL_snoc (m : Nat) (es : List Int) {j : Nat} (h : j < es.length) : perL 3 (enL m (es.take (j + 1))) = perL 3 (enL m (es.take j)) ++ [((dN m es[j] : Int), 3)] := by
  rw [List.take_succ_eq_append_getElem h]
  unfold enL perL
  rw [List.map_append, List.map_append]
  rfl
theorem dN_eq (m : Nat) {x : Int} (h : 0 ≤ x) : x % ((m : Int) + 1) = (dN m x : Int) := by
  unfold dN
  obtain ⟨n, rfl⟩ := Int.eq_ofNat_of_zero_le h
  rw [Int.toNat_natCast, Int.natCast_emod, Int.natCast_add]
  rfl
/-- how often number k has been met among the first j -/
def cK (k j : Nat) : Nat := if k < j then 1 else 0
theorem cK_zero (k : Nat) : cK k 0 = 0 := if_neg (by omega)
theorem cK_at (k : Nat) : cK k (k + 1) = cK k k + 1 := by unfold cK; rw [if_pos (by omega), if_neg (by omega)]
theorem cK_ne {k j : Nat} (h : j ≠ k) : cK k (j + 1) = cK k j := by
  unfold cK
  by_cases q : k < j
  · rw [if_pos q, if_pos (by omega)]
  · rw [if_neg q, if_neg (by omega)]
theorem cK_end {k j : Nat} (h : k < j) : cK k j = 1 := if_pos h
theorem cK_le (k j : Nat) : cK k j ≤ 1 := by unfold cK; split <;> omega
theorem same_b (a b : List (Int × Int)) (hla : a.length ≤ 100000) (hlb : b.length ≤ 100000) (q : Bool) (hq : decide (a = b) = q) (A B : Option Addr) (ca cb : Nat) (w : World) (CA : Prs w A a) (CB : Prs w B b) : Calls Tryd.prog 18 #[.slice A a.length ca, .slice B b.length cb] w fun e w' => e = .returned (.bool q) ∧ Below w.heap.size w w' := by
  have := same_c a b hla hlb A B ca cb w CA CB
  rw [hq] at this
  exact this
set_option maxRecDepth 100000 in
set_option maxHeartbeats 4000000 in
theorem powerTraceComplete_w (f m : Int) (hf : B64 f) (hm : B64 m) (es : List Int) (hel : (es.length : Int) ≤ 9223372036854775807) (hes : ∀ x ∈ es, 0 ≤ x ∧ x ≤ 255) (A : Option Addr) (cap : Nat) (w : World) (hr : Ready w) (C : Its .u8 w A es) : Calls Tryd.prog 8 #[.int .i64 f, .int .i64 m, .slice A es.length cap] w fun e w' => e = .returned (.bool true) ∧ Below w.heap.size w w' := by
  obtain ⟨i38, hi, hz0, hz1, hz2⟩ := info_parts info38
  have HR := Lib.hid hr
  have HC := Lib.hid C
  have HES := Lib.hid hes
  clear C hes
  go_enter Tryd.func8, Tryd.ntmps8
  go_wp2_with fail
  refine (examples_c _ hr).mono ?_
  rintro e w1 ⟨rfl, hb1⟩
  have HB1 := Lib.hid hb1
  have HEX := Lib.hid (fun W (h : Below w.heap.size w W) => examples_c W (HR.out.below h))
  clear hb1 hr
  by_cases g1 : f < 0
  · go_wp2_with fail
    refine (HEX.out _ HB1.out).mono ?_
    rintro e w2 ⟨rfl, hb2⟩
    go_wp2_with fail
    go_ret
    exact ⟨rfl, bt HB1.out hb2⟩
  · by_cases g2 : m < 0
    · go_wp2_with fail
      refine (HEX.out _ HB1.out).mono ?_
      rintro e w2 ⟨rfl, hb2⟩
      go_wp2_with fail
      go_ret
      exact ⟨rfl, bt HB1.out hb2⟩
    · by_cases g3 : 20 < f
      · go_wp2_with fail
        refine (HEX.out _ HB1.out).mono ?_
        rintro e w2 ⟨rfl, hb2⟩
        go_wp2_with fail
        go_ret
        exact ⟨rfl, bt HB1.out hb2⟩
      · by_cases g4 : 20 < m
        · go_wp2_with fail
          refine (HEX.out _ HB1.out).mono ?_
          rintro e w2 ⟨rfl, hb2⟩
          go_wp2_with fail
          go_ret
          exact ⟨rfl, bt HB1.out hb2⟩
        · by_cases g5 : f < (es.length : Int)
          · go_wp2_with fail
            refine (HEX.out _ HB1.out).mono ?_
            rintro e w2 ⟨rfl, hb2⟩
            go_wp2_with fail
            go_ret
            exact ⟨rfl, bt HB1.out hb2⟩
          · have HRC := Lib.hid (fun W => rcount_c f m (by omega) W)
            have HCN := Lib.hid (show cntI f m ≤ 300 → (outN f m 3 400 : Int) = cntI f m ∧ cntI f m = (totalN f.toNat m.toNat : Nat) from fun h => by
              unfold outN okA
              unfold cntI at *
              rw [if_pos (show 0 ≤ f ∧ (0 ≤ m ∧ m ≤ 1073741824) by omega)] at h ⊢
              rw [if_pos (by rw [decide_eq_true_iff]; omega)]
              unfold cntN at *
              omega)
            have hcb := cntI_b f m
            generalize cntI f m = n at *
            go_wp2_with fail
            refine (HRC.out _).mono ?_
            rintro e w2 ⟨rfl, hb2⟩
            have HB2 := Lib.hid (bt HB1.out hb2)
            clear hb2 HB1
            by_cases g6 : 300 < n
            · go_wp2_with fail
              refine (HEX.out _ HB2.out).mono ?_
              rintro e w3 ⟨rfl, hb3⟩
              go_wp2_with fail
              go_ret
              exact ⟨rfl, bt HB2.out hb3⟩
            · obtain ⟨hc1, hc2⟩ := HCN.out (by omega)
              obtain ⟨F, hF⟩ : ∃ F : Nat, F = f.toNat := ⟨_, rfl⟩
              obtain ⟨M, hM⟩ : ∃ M : Nat, M = m.toNat := ⟨_, rfl⟩
              rw [← hF, ← hM] at hc2
              have hFI : (F : Int) = f := by omega
              have hMI : (M : Int) = m := by omega
              have HCC := Lib.hid (And.intro hc1 hc2)
              have HF := Lib.hid hF
              have HM := Lib.hid hM
              have HFI := Lib.hid hFI
              have HMI := Lib.hid hMI
              clear hc1 hc2 HCN HRC hF hM hFI hMI
              go_wp2_with fail
              go_loopw [7, 48] (fun v i wr => ∃ j : Nat, j ≤ es.length ∧ i = .int .i64 j ∧ Below w.heap.size w wr ∧ wr.ownsRow w.heap.size 38 2 v (perL 3 (enL M (es.take j))).length (flat (perL 3 (enL M (es.take j))))) (fun _ i _ => es.length - (intOf i).toNat)
              case atStart => exact ⟨0, by omega, rfl, HB2.out, by rw [List.take_zero]; exact World.ownsRow_nil _ _ _ _⟩
              case round =>
                obtain ⟨j, hj, rfl, hbr, hown⟩ := hrel
                have HB := Lib.hid hbr
                have HO := Lib.hid hown
                by_cases hlt : j < es.length
                · obtain ⟨bd, rfl, hbd, c0⟩ := (HC.out.next hbr).at_ j _ (List.getElem?_eq_getElem hlt)
                  have hbx := HES.out es[j] (List.getElem_mem hlt)
                  have HSN := Lib.hid (enL_snoc M es hlt)
                  have hjI : (j : Int) < (es.length : Int) := by omega
                  have hj0 : (0 : Int) ≤ (j : Int) := by omega
                  generalize es[j] = x at *
                  have hll : (perL 3 (enL M (es.take j))).length = j := by rw [perL_len, enL_len, List.length_take]; omega
                  have hown1 := hown.alloc (.cells #[.int .i64 (dN M x : Int), .int .i64 3] 38)
                  have hnew := news_period wr (dN M x : Int) 3 38
                  have h1c := one_period (dN M x : Int) 3
                  have hxm := dN_eq M hbx.1
                  rw [HMI.out] at hxm
                  have hbs := hbr.size
                  have HAL := Lib.hid (hbr.alloc hbs (.cells #[.int .i64 (dN M x : Int), .int .i64 3] 38))
                  have hdb : dN M x ≤ M := by have := Nat.mod_lt x.toNat (show 0 < M + 1 by omega); unfold dN; omega
                  have hMb : M ≤ 20 := by have := HMI.out; omega
                  generalize hdn : dN M x = d at *
                  generalize hpl : perL 3 (enL M (es.take j)) = pl at *
                  clear hbr hown hdn
                  go_wp2_with (at_builtin; rw [hxm]; refine wpList_append_own _ rfl _ _ 22 rfl w.heap.size 38 i38 _ 2 16 Tryd.underlying22 hi hz0 hz1 hz2 rfl (by decide) _ _ _ rfl hown1 ⟨wr.heap.size, 0, none⟩ 1 1 [.int .i64 (d : Int), .int .i64 3] rfl rfl hnew h1c (by unfold maxLen; omega) (by omega) (by simp; omega) ?_; intro v1 w9 hown9 hgrow9 hnil9)
                  go_roundw
                  case rel =>
                    refine ⟨j + 1, by omega, by go_num, HAL.out.grown hgrow9 (by simp; omega) (fun j hj => (hown1.lt j hj).1), ?_⟩
                    rw [HSN.out, flat_append, List.length_append]
                    exact hown9
                  case measure => simp [intOf]; omega
                · obtain rfl : j = es.length := by omega
                  rw [List.take_length] at hown
                  obtain ⟨D, cd, rfl, -, CD⟩ := Prs.of_own hown
                  have HCD := Lib.hid CD
                  clear hbr hown CD HO
                  have HSC := Lib.hid (show ∃ k0, Sched M 3 k0 (perL 3 (enL M es)) ∧ k0 < totalN F M from by
                    have := HFI.out
                    have hk : IsK M _ (enL M es) := ⟨enL_dig M es, rfl⟩
                    exact ⟨_, ⟨_, hk, rfl⟩, (hk.len F).1 (by rw [enL_len]; omega)⟩)
                  have hpl : (perL 3 (enL M es)).length ≤ 20 := by rw [perL_len, enL_len]; omega
                  generalize perL 3 (enL M es) = pl at *
                  go_wp2_with fail
                  refine (first_r f m 3 400 (by omega) (by decide) (by decide) _).mono ?_
                  rintro e w4 ⟨A4, cap4, Ls, rfl, R, hfl, hb4⟩
                  have hB4 := bt HB.out hb4
                  have hCD4 := HCD.out.next hb4
                  have hlen := hfl.len
                  have h400 := outN_le f m 3 400
                  have hcc := HCC.out
                  rw [← HM.out] at hfl
                  obtain ⟨k0, hs0, hk0⟩ := HSC.out
                  have hk0l : k0 < Ls.length := by omega
                  have hll : Ls.length ≤ 400 := by omega
                  have HB4 := Lib.hid hB4
                  have HCD4 := Lib.hid hCD4
                  have HR4 := Lib.hid R
                  have HFL := Lib.hid hfl
                  have HS0 := Lib.hid hs0
                  clear hB4 hCD4 R hfl hs0 hk0 hcc h400 HCD HB HSC hb4 hlen
                  have HK0 := Lib.hid (cK_zero k0)
                  have HK1 := Lib.hid (cK_at k0)
                  have HK2 := Lib.hid (fun j h => cK_ne (k := k0) (j := j) h)
                  have HK3 := Lib.hid (fun j h => cK_end (k := k0) (j := j) h)
                  have HK4 := Lib.hid (fun j => cK_le k0 j)
                  go_wp2_with fail
                  go_loopw [12, 70] (fun c i wr => ∃ j : Nat, j ≤ Ls.length ∧ i = .int .i64 j ∧ c = .int .i64 (cK k0 j) ∧ Below w.heap.size w wr ∧ Rws wr A4 Ls ∧ Prs wr D pl) (fun _ i _ => Ls.length - (intOf i).toNat)
                  case atStart => exact ⟨0, by omega, rfl, by rw [HK0.out]; rfl, HB4.out, HR4.out, HCD4.out⟩
                  case round =>
                    obtain ⟨j, hj, rfl, rfl, hb, R, CD⟩ := hrel
                    have HB := Lib.hid hb
                    by_cases hlt : j < Ls.length
                    · have hx := List.getElem?_eq_getElem hlt
                      have hsh := HFL.out.short hx
                      have hol := outN_le f m 3 400
                      have hrl : Ls[j].length ≤ 100000 := by omega
                      have hsj := HFL.out.at_ j _ hx
                      obtain ⟨ad, D2, k2, rfl, l2, c2, E2⟩ := R.at_ j _ hx
                      have hjI : (j : Int) < (Ls.length : Int) := by omega
                      have hj0 : (0 : Int) ≤ (j : Int) := by omega
                      have h4 := HK4.out j
                      have HRr := Lib.hid R
                      have HCDr := Lib.hid CD
                      have hq1 : j = k0 → decide (Ls[j] = pl) = true := fun h => decide_eq_true_iff.2 (hsj.uniq (by rw [h]; exact HS0.out))
                      have hq2 : j ≠ k0 → decide (Ls[j] = pl) = false := fun h => decide_eq_false_iff_not.2 (fun e => h (hsj.num (by rw [e]; exact HS0.out)))
                      generalize Ls[j] = r at *
                      have HE2 := Lib.hid E2
                      by_cases hjk : j = k0
                      · have HSM := Lib.hid (fun W p q => same_b r pl hrl (by omega) true (hq1 hjk) D2 D k2 cd W p q)
                        have HK1 := Lib.hid (show cK k0 (j + 1) = cK k0 j + 1 from by rw [hjk]; exact HK1.out)
                        clear hsj hq1 hq2 hsh hx E2 R CD hb hol hjk
                        generalize cK k0 j = c at *
                        go_wp2_with fail
                        refine (HSM.out _ HE2.out HCDr.out).mono ?_
                        rintro e w5 ⟨rfl, hb5⟩
                        have HB5 := Lib.hid hb5
                        clear hb5
                        go_wp2_with fail
                        go_roundw
                        case rel => exact ⟨j + 1, by omega, by go_num, by rw [HK1.out]; go_num, bt HB.out HB5.out, HRr.out.next HB5.out, HCDr.out.next HB5.out⟩
                        case measure => simp [intOf]; omega
                      · have HSM := Lib.hid (fun W p q => same_b r pl hrl (by omega) false (hq2 hjk) D2 D k2 cd W p q)
                        have HK1 := Lib.hid (HK2.out j hjk)
                        clear hsj hq1 hq2 hsh hx E2 R CD hb hol hjk
                        generalize cK k0 j = c at *
                        go_wp2_with fail
                        refine (HSM.out _ HE2.out HCDr.out).mono ?_
                        rintro e w5 ⟨rfl, hb5⟩
                        have HB5 := Lib.hid hb5
                        clear hb5
                        go_wp2_with fail
                        go_roundw
                        case rel => exact ⟨j + 1, by omega, by go_num, by rw [HK1.out], bt HB.out HB5.out, HRr.out.next HB5.out, HCDr.out.next HB5.out⟩
                        case measure => simp [intOf]; omega
                    · obtain rfl : j = Ls.length := by omega
                      have h1 := HK3.out _ hk0l
                      rw [h1]
                      clear R CD hb
                      go_wp2_with fail
                      go_ret
                      exact ⟨rfl, HB.out⟩
end Go.Proofs.YtabfjiapoafgaaaDoor
