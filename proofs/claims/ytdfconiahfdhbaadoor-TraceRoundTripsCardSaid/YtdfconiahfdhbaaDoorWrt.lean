/-
  TraceRoundTrips.
-/
import Derived.Test.YtdfconiahfdhbaaDoorWfo
namespace Go.Proofs.YtdfconiahfdhbaaDoor
open Go.RowKit
attribute [local go_sem ↓] Go.wp_at_zero Go.wp_at_succ

theorem parseV_c (l : List Ev) (hv : Vld l) (hl : l.length ≤ 80) (w : World) (hr : Rdy w) : Calls Tryd.prog 15 #[.string ⟨(txt l).toArray⟩] w fun e w' => ∃ A cap, e = .returned (.tuple #[.slice A l.length cap, .int .i64 0, .int .i64 0]) ∧ Evs w' A l ∧ Below w.heap.size w w' :=
  (parse_c ⟨(txt l).toArray⟩ (by
    have := txt_le l (fun e he => (hv e he).1)
    show (txt l).length ≤ _
    omega) w hr).mono fun e w' h => by
    obtain ⟨l', rest, hs, hv', hc, hb⟩ := h
    have hs' : txt l ++ [] = txt l' ++ rest := by rw [← hs, List.append_nil]
    obtain ⟨rfl, rfl⟩ := txt_uniq l l' [] rest hv hv' hs' (.inl rfl) (by
      rcases hc with ⟨h, _⟩ | ⟨_, h, _⟩
      · exact .inl h
      · exact .inr h)
    rcases hc with ⟨_, A, cap, he, hE⟩ | ⟨h, _⟩
    · exact ⟨A, cap, he, hE, hb⟩
    · exact absurd rfl h
theorem vld_of {l : List Ev} (hin : InL l) (h : l.all validE = true) : Vld l := fun e he => ⟨hin e he, List.all_eq_true.1 h e he⟩
theorem fmt_vld {l : List Ev} (h : Vld l) : fmtL l = txt l := by
  unfold fmtL
  rw [if_pos (List.all_eq_true.2 fun e he => (h e he).2)]
theorem fmt_no {l : List Ev} (h : l.all validE = false) : fmtL l = [] := by
  unfold fmtL
  rw [h]; rfl
set_option maxRecDepth 100000 in
set_option maxHeartbeats 4000000 in
theorem traceRoundTrips_w (l : List Ev) (s : ByteArray) (hin : InL l) (A : Option Addr) (cap : Nat) (w : World) (hr : Rdy w) (hlm : (l.length : Int) ≤ 9223372036854775807) (hsm : s.size ≤ 140737488351232) (C : Evs w A l) : Calls Tryd.prog 5 #[.slice A l.length cap, .string s] w fun e w' => e = .returned (.bool true) ∧ Below w.heap.size w w' := by
  have HC := Lib.hid C
  have HI := Lib.hid hin
  have HRD := Lib.hid (fun W (hb : Below w.heap.size w W) => hr.next hb)
  clear C hin
  go_enter Tryd.func5, Tryd.ntmps5
  go_wp2_with fail
  refine (awake_c _ hr).mono ?_
  rintro e w1 ⟨rfl, hb1⟩
  have HB1 := Lib.hid hb1
  clear hb1
  by_cases h80 : 80 < l.length
  · have h80I : (80 : Int) < (l.length : Int) := by omega
    go_wp2_with fail
    go_ret
    exact ⟨rfl, HB1.out⟩
  · have h80I : ¬ (80 : Int) < (l.length : Int) := by omega
    by_cases h2k : 2000 < s.size
    · have h2kI : (2000 : Int) < (s.size : Int) := by omega
      go_wp2_with fail
      go_ret
      exact ⟨rfl, HB1.out⟩
    · have h2kI : ¬ (2000 : Int) < (s.size : Int) := by omega
      go_wp2_with fail
      go_loopw [5, 26] (fun v i wr => ∃ j : Nat, j ≤ l.length ∧ i = .int .i64 j ∧ v = .bool ((l.take j).all validE) ∧ Below w.heap.size w wr) (fun _ i _ => l.length - (intOf i).toNat)
      case atStart => exact ⟨0, by omega, rfl, rfl, HB1.out⟩
      case round =>
        obtain ⟨j, hj, rfl, rfl, hb⟩ := hrel
        have HB := Lib.hid hb
        by_cases hlt : j < l.length
        · obtain ⟨ad, rfl, EA⟩ := (HC.out.next hb).at_ j _ (List.getElem?_eq_getElem hlt)
          have HX := Lib.hid (HI.out l[j] (List.getElem_mem hlt))
          have HTA := Lib.hid (show (l.take (j + 1)).all validE = ((l.take j).all validE && validE l[j]) from by rw [List.take_succ_eq_append_getElem hlt, List.all_append]; simp)
          generalize l[j] = e at *
          clear hb
          have K1 := EX.start wr e 26
          have HB2 := Lib.hid (HB.out.trans ((ba wr (.cells #[.int .i64 e.kind, .int .i64 e.time, .int .i64 e.task, .int .i64 e.n, .int .i16 e.value, .int .i64 e.port] 26)).mono HB.out.size))
          obtain ⟨_, c0, c1, c2, c3, c4, c5⟩ := EA
          cases hta : (l.take j).all validE
          · have HTF := Lib.hid hta
            clear hta K1
            go_wp2_with fail
            go_roundw
            case rel => exact ⟨j + 1, by omega, by go_num, by rw [HTA.out, HTF.out]; rfl, HB2.out⟩
            case measure => simp [intOf]; omega
          · have HTF := Lib.hid hta
            clear hta K1
            go_wp2_with fail
            refine (valid_l e HX.out rfl _ (HRD.out _ HB2.out).k).mono ?_
            rintro r w7 ⟨rfl, hb7⟩
            have HB7 := Lib.hid (bt HB2.out hb7)
            clear hb7 c0 c1 c2 c3 c4 c5
            go_wp2_with fail
            go_roundw
            case rel => exact ⟨j + 1, by omega, by go_num, by rw [HTA.out, HTF.out]; rfl, HB7.out⟩
            case measure => simp [intOf]; omega
        · obtain rfl : j = l.length := by omega
          clear hb
          rw [List.take_length]
          go_wp2_with fail
          refine (format_c l (by omega) HI.out A cap _ (HRD.out _ HB.out) (HC.out.next HB.out)).mono ?_
          rintro e w3 ⟨rfl, hb3⟩
          have HB3 := Lib.hid (bt HB.out hb3)
          clear hb3
          have fin : True := trivial
          cases hall : l.all validE
          · rw [fmt_no hall]
            clear hall
            go_wp2_with fail
            refine (parseV_c [] Vld.nil (by simp) _ (HRD.out _ HB3.out)).mono ?_
            rintro e w4 ⟨A1, cap1, rfl, hE, hb4⟩
            have HB4 := Lib.hid (bt HB3.out hb4)
            clear hE hb4
            go_wp2_with fail
            refine (parse_c s (by omega) _ (HRD.out _ HB4.out)).mono ?_
            rintro e w8 ⟨l2, rest, hs2, hv2, ⟨rfl, A2, cap2, rfl, hE2⟩ | ⟨hne, hst, rfl⟩, hb8⟩
            · have HB8 := Lib.hid (bt HB4.out hb8)
              have HE2 := Lib.hid hE2
              have HV2 := Lib.hid hv2
              have HS2 := Lib.hid hs2
              have hl2 : l2.length ≤ 2000 := by
                have h1 := line_pos l2
                have h2 := congrArg List.length hs2
                rw [List.length_append] at h2
                have h3 : s.data.toList.length = s.size := rfl
                omega
              have HFS := Lib.hid (show (⟨(fmtL l2).toArray⟩ : ByteArray) = s from bytes_inj (by rw [hs2, List.append_nil]; exact fmt_vld hv2))
              clear hs2 hv2 hE2 hb8
              go_wp2_with fail
              refine (format_c l2 (by omega) (fun e he => (HV2.out e he).1) A2 cap2 _ (HRD.out _ HB8.out) HE2.out).mono ?_
              rintro e w9 ⟨rfl, hb9⟩
              rw [HFS.out]
              have HB9 := Lib.hid (bt HB8.out hb9)
              clear hb9
              go_wp2_with fail
              go_ret
              exact ⟨ret_bool (by simp), HB9.out⟩
            · have HB8 := Lib.hid (bt HB4.out hb8)
              clear hs2 hv2 hne hst hb8
              go_wp2_with fail
              go_ret
              exact ⟨rfl, HB8.out⟩
          · have HV := Lib.hid (vld_of HI.out hall)
            rw [fmt_vld HV.out]
            clear hall
            go_wp2_with fail
            refine (parseV_c l HV.out (by omega) _ (HRD.out _ HB3.out)).mono ?_
            rintro e w4 ⟨A1, cap1, rfl, hE, hb4⟩
            have HB4 := Lib.hid (bt HB3.out hb4)
            have HE := Lib.hid hE
            clear hE hb4
            go_wp2_with fail
            refine (requal_c l l (by omega) (by omega) A A1 cap cap1 _ (HC.out.next HB4.out) HE.out).mono ?_
            rintro e w5 ⟨rfl, hb5⟩
            rw [eqL_yes rfl]
            replace HB4 := Lib.hid (bt HB4.out hb5)
            clear hb5
            go_wp2_with fail
            refine (parse_c s (by omega) _ (HRD.out _ HB4.out)).mono ?_
            rintro e w8 ⟨l2, rest, hs2, hv2, ⟨rfl, A2, cap2, rfl, hE2⟩ | ⟨hne, hst, rfl⟩, hb8⟩
            · have HB8 := Lib.hid (bt HB4.out hb8)
              have HE2 := Lib.hid hE2
              have HV2 := Lib.hid hv2
              have HS2 := Lib.hid hs2
              have hl2 : l2.length ≤ 2000 := by
                have h1 := line_pos l2
                have h2 := congrArg List.length hs2
                rw [List.length_append] at h2
                have h3 : s.data.toList.length = s.size := rfl
                omega
              have HFS := Lib.hid (show (⟨(fmtL l2).toArray⟩ : ByteArray) = s from bytes_inj (by rw [hs2, List.append_nil]; exact fmt_vld hv2))
              clear hs2 hv2 hE2 hb8
              go_wp2_with fail
              refine (format_c l2 (by omega) (fun e he => (HV2.out e he).1) A2 cap2 _ (HRD.out _ HB8.out) HE2.out).mono ?_
              rintro e w9 ⟨rfl, hb9⟩
              rw [HFS.out]
              have HB9 := Lib.hid (bt HB8.out hb9)
              clear hb9
              go_wp2_with fail
              go_ret
              exact ⟨ret_bool (by simp), HB9.out⟩
            · have HB8 := Lib.hid (bt HB4.out hb8)
              clear hs2 hv2 hne hst hb8
              go_wp2_with fail
              go_ret
              exact ⟨rfl, HB8.out⟩
end Go.Proofs.YtdfconiahfdhbaaDoor
