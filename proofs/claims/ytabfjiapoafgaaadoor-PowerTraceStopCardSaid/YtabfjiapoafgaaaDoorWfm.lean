/-
  PowerTraceFormat and PowerTraceParse.
-/
import Derived.Test.YtabfjiapoafgaaaDoorExm
import Derived.Test.YtabfjiapoafgaaaDoorRps
namespace Go.Proofs.YtabfjiapoafgaaaDoor
open Go.RowKit
set_option linter.unusedVariables false
attribute [local go_sem ↓] Go.wp_at_zero Go.wp_at_succ

theorem fmtV_len {l : List (Int × Int)} (h : l.length ≤ 60) : (fmtV l).length ≤ 2640 := by
  by_cases hv : validL l = true
  · rw [fmtV_t hv]
    have := join_len l (validL_in hv)
    omega
  · rw [fmtV_f hv]
    simp
theorem formatS_c (l : List (Int × Int)) (hl : l.length ≤ 60) (A : Option Addr) (cap : Nat) (w : World) (hr : Ready w) (C : Prs w A l) {b : ByteArray} (hb : (⟨(fmtV l).toArray⟩ : ByteArray) = b) : Calls Tryd.prog 12 #[.slice A l.length cap] w fun e w' => e = .returned (.string b) ∧ Below w.heap.size w w' := by
  rw [← hb]; exact format_c l (by omega) A cap w hr C
theorem rformatS_c (l : List (Int × Int)) (hl : l.length ≤ 60) (A : Option Addr) (cap : Nat) (w : World) (C : Prs w A l) {b : ByteArray} (hb : (⟨(fmtV l).toArray⟩ : ByteArray) = b) : Calls Tryd.prog 16 #[.slice A l.length cap] w fun e w' => e = .returned (.string b) ∧ Below w.heap.size w w' := by
  rw [← hb]; exact rformat_c l (by omega) A cap w C
theorem same_r (l : List (Int × Int)) (hl : l.length ≤ 100000) (A B : Option Addr) (ca cb : Nat) (w : World) (CA : Prs w A l) (CB : Prs w B l) : Calls Tryd.prog 18 #[.slice A l.length ca, .slice B l.length cb] w fun e w' => e = .returned (.bool true) ∧ Below w.heap.size w w' := by
  have := same_c l l hl hl A B ca cb w CA CB
  rw [decide_eq_true (rfl : l = l)] at this
  exact this
/-- a copy, read -/
theorem copied_c (l : List (Int × Int)) (hl : l.length ≤ 8796093022208) (A : Option Addr) (cap : Nat) (w : World) (C : Prs w A l) : Calls Tryd.prog 13 #[.slice A l.length cap] w fun e w' => ∃ A2 cap2, e = .returned (.slice A2 l.length cap2) ∧ Prs w' A2 l ∧ Below w.heap.size w w' := by
  refine (copied_o l hl A cap w C).mono ?_
  rintro e w' ⟨v, rfl, ho, hb⟩
  obtain ⟨A2, cap2, rfl, -, C2⟩ := Prs.of_own ho
  exact ⟨A2, cap2, rfl, C2, hb⟩
set_option maxRecDepth 100000 in
set_option maxHeartbeats 2000000 in
theorem powerTraceFormat_w (l : List (Int × Int)) (hlm : (l.length : Int) ≤ 9223372036854775807) (A : Option Addr) (cap : Nat) (w : World) (hr : Ready w) (C : Prs w A l) : Calls Tryd.prog 3 #[.slice A l.length cap] w fun e w' => e = .returned (.bool true) ∧ Below w.heap.size w w' := by
  have HC := Lib.hid C
  have HR := Lib.hid hr
  clear C
  go_enter Tryd.func3, Tryd.ntmps3
  go_wp2_with fail
  refine (examples_c _ hr).mono ?_
  rintro e w1 ⟨rfl, hb1⟩
  have HB1 := Lib.hid hb1
  clear hb1 hr
  by_cases h60 : 60 < l.length
  · have h60I : (60 : Int) < (l.length : Int) := by omega
    go_wp2_with fail
    refine (examples_c _ (HR.out.below HB1.out)).mono ?_
    rintro e w2 ⟨rfl, hb2⟩
    go_wp2_with fail
    go_ret
    exact ⟨rfl, bt HB1.out hb2⟩
  · have h60I : ¬ (60 : Int) < (l.length : Int) := by omega
    have hl : l.length ≤ 60 := by omega
    obtain ⟨b, hb⟩ : ∃ b, (⟨(fmtV l).toArray⟩ : ByteArray) = b := ⟨_, rfl⟩
    have HFB := Lib.hid hb
    clear hb
    go_wp2_with fail
    refine (copied_c l (by omega) A cap _ (HC.out.next HB1.out)).mono ?_
    rintro e w2 ⟨A2, cap2, rfl, C2, hb2⟩
    have HB2 := Lib.hid (bt HB1.out hb2)
    have HC2 := Lib.hid C2
    clear hb2 C2
    go_wp2_with fail
    refine (formatS_c l hl A2 cap2 _ (HR.out.below HB2.out) HC2.out HFB.out).mono ?_
    rintro e w3 ⟨rfl, hb3⟩
    have HB3 := Lib.hid (bt HB2.out hb3)
    clear hb3
    go_wp2_with fail
    refine (copied_c l (by omega) A cap _ (HC.out.next HB3.out)).mono ?_
    rintro e w4 ⟨A4, cap4, rfl, C4, hb4⟩
    have HB4 := Lib.hid (bt HB3.out hb4)
    have HC4 := Lib.hid C4
    clear hb4 C4
    go_wp2_with fail
    refine (validS_c l (by omega) A4 cap4 _ HC4.out).mono ?_
    rintro e w5 ⟨rfl, hb5⟩
    have HB5 := Lib.hid (bt HB4.out hb5)
    clear hb5
    go_wp2_with fail
    refine (rvalidS_c l (by omega) A cap _ (HC.out.next HB5.out)).mono ?_
    rintro e w6 ⟨rfl, hb6⟩
    have HB6 := Lib.hid (bt HB5.out hb6)
    clear hb6
    obtain ⟨vb, hvb⟩ : ∃ vb, validL l = vb := ⟨_, rfl⟩
    have HVB := Lib.hid hvb
    rw [hvb]
    clear hvb
    go_wp2_with fail
    refine (rformatS_c l hl A cap _ (HC.out.next HB6.out) HFB.out).mono ?_
    rintro e w7 ⟨rfl, hb7⟩
    have HB7 := Lib.hid (bt HB6.out hb7)
    clear hb7
    go_wp2_with fail
    refine (parse_c b (by rw [← HFB.out]; show (fmtV l).length ≤ _; have := fmtV_len hl; omega) _ (HR.out.below HB7.out)).mono ?_
    rintro e w8 ⟨A8, cap8, l8, n8, e8, rfl, hp8, C8, hb8⟩
    have HB8 := Lib.hid (bt HB7.out hb8)
    have HC8 := Lib.hid C8
    have HP8 := Lib.hid hp8
    clear hb8 C8 hp8
    go_wp2_with fail
    refine (rvalidS_c l (by omega) A cap _ (HC.out.next HB8.out)).mono ?_
    rintro e w9 ⟨rfl, hb9⟩
    have HB9 := Lib.hid (bt HB8.out hb9)
    have HC9 := Lib.hid (HC8.out.next hb9)
    rw [HVB.out]
    clear hb9
    cases vb
    · go_wp2_with fail
      go_ret
      exact ⟨rfl, HB9.out⟩
    · have hp := HP8.out
      rw [← HFB.out] at hp
      have hp2 : PRes (fmtT l) l8 n8 e8 := by rw [← fmtV_t HVB.out]; exact hp
      obtain ⟨rfl, rfl, rfl⟩ := hp2.uniq (PRes.of_fmt HVB.out)
      clear hp hp2
      go_wp2_with fail
      refine (same_r l8 (by omega) A8 A cap8 cap _ HC9.out (HC.out.next HB9.out)).mono ?_
      rintro e w10 ⟨rfl, hb10⟩
      go_wp2_with fail
      go_ret
      exact ⟨rfl, bt HB9.out hb10⟩
/-- what is read is not long -/
theorem PRes.len {s : List UInt8} {l : List (Int × Int)} {n e : Int} (h : PRes s l n e) : l.length ≤ s.length + 1 := by
  rcases h with ⟨_, rfl, _⟩ | ⟨_, t, r, h1, _, ⟨_, rfl, _⟩ | ⟨_, _, rfl, _⟩⟩
  · simp
  · have h2 := txt_len l
    have h3 := congrArg List.length h1
    rw [List.length_append, List.length_append, List.length_singleton] at h3
    omega
  · simp
set_option maxRecDepth 100000 in
set_option maxHeartbeats 2000000 in
theorem powerTraceParse_w (s : ByteArray) (hs0 : s.size ≤ 140737488351232) (w : World) (hr : Ready w) : Calls Tryd.prog 4 #[.string s] w fun e w' => e = .returned (.bool true) ∧ Below w.heap.size w w' := by
  have HR := Lib.hid hr
  go_enter Tryd.func4, Tryd.ntmps4
  go_wp2_with fail
  refine (examples_c _ hr).mono ?_
  rintro e w1 ⟨rfl, hb1⟩
  have HB1 := Lib.hid hb1
  clear hb1 hr
  by_cases h6 : 600 < s.size
  · have h6I : (600 : Int) < (s.size : Int) := by omega
    go_wp2_with fail
    refine (examples_c _ (HR.out.below HB1.out)).mono ?_
    rintro e w2 ⟨rfl, hb2⟩
    go_wp2_with fail
    go_ret
    exact ⟨rfl, bt HB1.out hb2⟩
  · have h6I : ¬ (600 : Int) < (s.size : Int) := by omega
    have hs : s.size ≤ 600 := by omega
    have hsl : s.data.toList.length = s.size := rfl
    go_wp2_with fail
    refine (parse_c s (by omega) _ (HR.out.below HB1.out)).mono ?_
    rintro e w2 ⟨A2, cap2, l2, n2, e2, rfl, hp2, C2, hb2⟩
    have HB2 := Lib.hid (bt HB1.out hb2)
    have HC2 := Lib.hid C2
    have HP2 := Lib.hid hp2
    clear hb2 C2 hp2
    go_wp2_with fail
    refine (rparse_c s (by omega) _).mono ?_
    rintro e w3 ⟨A3, cap3, l3, n3, e3, rfl, hp3, C3, hb3⟩
    obtain ⟨rfl, rfl, rfl⟩ := HP2.out.uniq hp3
    have HB3 := Lib.hid (bt HB2.out hb3)
    have HC23 := Lib.hid (HC2.out.next hb3)
    have HC3 := Lib.hid C3
    have hll := hp3.len
    clear hb3 C3 hp3 HC2
    go_wp2_with fail
    refine (same_r l2 (by omega) A2 A3 cap2 cap3 _ HC23.out HC3.out).mono ?_
    rintro e w4 ⟨rfl, hb4⟩
    have HB4 := Lib.hid (bt HB3.out hb4)
    have HC4 := Lib.hid (HC23.out.next hb4)
    clear hb4
    by_cases he : e2 = 0
    · subst he
      have hf := HP2.out.fmt
      have HF := Lib.hid (show (⟨(fmtV l2).toArray⟩ : ByteArray) = s from by
        rw [fmtV_t hf.2, hf.1])
      have HFM := Lib.hid (fun W h C => format_c l2 (by omega) A2 cap2 W h C)
      rw [HF.out] at HFM
      clear hf hll
      go_wp2_with fail
      refine (HFM.out _ (HR.out.below HB4.out) HC4.out).mono ?_
      rintro e w5 ⟨rfl, hb5⟩
      go_wp2_with fail
      go_ret
      exact ⟨rfl, bt HB4.out hb5⟩
    · have heb : (e2 != 0) = true := by simpa using he
      have heb2 : (e2 == 0) = false := by simpa using he
      clear hll
      go_wp2_with fail
      go_ret
      exact ⟨rfl, HB4.out⟩
end Go.Proofs.YtabfjiapoafgaaaDoor
