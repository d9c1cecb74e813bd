/-
  The walks of IntervalText and IntervalParse.
-/
import Derived.Test.YtmihogccpgdpaaaDoorLaws
namespace Go.Proofs.YtmihogccpgdpaaaDoor
open Go.RowKit

theorem fmt_len {a b : Int} : (fmtIv a b).length ≤ 44 := by
  unfold fmtIv
  split
  · rename_i h
    obtain ⟨a0, a1, a2⟩ := vld_iff.1 h
    have la := Lib.itoa_length_le a (by omega) (by omega)
    have lb := Lib.itoa_length_le b (by omega) (by omega)
    split
    · omega
    · simp; omega
  · simp
theorem fmt_size (a b : Int) : (⟨(fmtIv a b).toArray⟩ : ByteArray).size ≤ 1000 := by
  have := fmt_len (a := a) (b := b)
  have e : (⟨(fmtIv a b).toArray⟩ : ByteArray).size = (fmtIv a b).length := by simp [ByteArray.size]
  omega
theorem fmt_ne {a b : Int} (h : vld a b = true) : fmtIv a b ≠ [] := by
  obtain ⟨a0, a1, a2⟩ := vld_iff.1 h
  have hp : Lib.itoa a ≠ [] := by rw [Dec.itoa_nonneg a0]; exact Dec.decDigits_ne _
  unfold fmtIv
  rw [if_pos h]
  split
  · exact hp
  · simp

set_option maxHeartbeats 2000000 in
theorem text_y (a b : Int) (l0 : -9223372036854775808 ≤ a) (l1 : a ≤ 9223372036854775807) (h : vld a b = true) (w : World) (hr : Ready w) :
    Calls Tryd.prog 6 #[iv a b] w fun e w' => e = .returned (.bool true) ∧ Below w.heap.size w w' := by
  have HV := Lib.hid h
  clear h
  have kb0 := Below.refl w.heap.size w
  go_enter Tryd.func6, Tryd.ntmps6
  go_wp2_with fail
  have hb1 := ba w (.cells #[.int .i64 a, .int .i64 b] 23)
  have kb1 := kb0.trans (hb1.mono kb0.size)
  have hr1 := hr.below hb1
  clear hb1 kb0
  have a_1 := Two.at (w.heap.size) w a b (by simp)
  obtain ⟨al, ap, aq⟩ := id a_1
  go_wp2_with fail
  refine (format_c a b l0 l1 _ hr1).mono ?_
  rintro e w2 ⟨rfl, hb2⟩
  have kb2 := kb1.trans (hb2.mono kb1.size)
  have hr2 := hr1.below hb2
  have a_2 := a_1.next hb2
  clear hb2 kb1 hr1 a_1
  clear al ap aq
  obtain ⟨al, ap, aq⟩ := id a_2
  go_wp2_with fail
  refine (examples_c _ hr2).mono ?_
  rintro e w3 ⟨rfl, hb3⟩
  have kb3 := kb2.trans (hb3.mono kb2.size)
  have hr3 := hr2.below hb3
  have a_3 := a_2.next hb3
  clear hb3 kb2 hr2 a_2
  clear al ap aq
  obtain ⟨al, ap, aq⟩ := id a_3
  go_wp2_with fail
  refine (rformat_c a b _).mono ?_
  rintro e w4 ⟨rfl, hb4⟩
  have kb4 := kb3.trans (hb4.mono kb3.size)
  have hr4 := hr3.below hb4
  have a_4 := a_3.next hb4
  clear hb4 kb3 hr3 a_3
  clear al ap aq
  obtain ⟨al, ap, aq⟩ := id a_4
  go_wp2_with fail
  refine (parse_yes a b HV.out _ (fmt_size a b) rfl _ hr4).mono ?_
  rintro e w5 ⟨rfl, hb5⟩
  have kb5 := kb4.trans (hb5.mono kb4.size)
  have hr5 := hr4.below hb5
  have a_5 := a_4.next hb5
  clear hb5 kb4 hr4 a_4
  clear al ap aq
  obtain ⟨al, ap, aq⟩ := id a_5
  have hb6 := ba w5 (.cells #[.int .i64 a, .int .i64 b] 23)
  have kb6 := kb5.trans (hb6.mono kb5.size)
  have hr6 := hr5.below hb6
  have a_6 := a_5.next hb6
  clear hb6 kb5 hr5 a_5
  have x_6 := Two.at (w5.heap.size) w5 a b (by simp)
  clear al ap aq
  obtain ⟨al, ap, aq⟩ := id a_6
  obtain ⟨xl, xp, xq⟩ := id x_6
  go_wp2_with fail
  refine (rvalid_c a b _).mono ?_
  rintro e w7 ⟨rfl, hb7⟩
  have kb7 := kb6.trans (hb7.mono kb6.size)
  have hr7 := hr6.below hb7
  have a_7 := a_6.next hb7
  have x_7 := x_6.next hb7
  clear hb7 kb6 hr6 a_6 x_6
  rw [HV.out]
  clear al ap aq xl xp xq
  obtain ⟨al, ap, aq⟩ := id a_7
  obtain ⟨xl, xp, xq⟩ := id x_7
  go_wp2_with fail
  go_ret
  exact ⟨rfl, kb7⟩

set_option maxHeartbeats 2000000 in
theorem text_n (a b : Int) (l0 : -9223372036854775808 ≤ a) (l1 : a ≤ 9223372036854775807) (h : vld a b = false) (w : World) (hr : Ready w) :
    Calls Tryd.prog 6 #[iv a b] w fun e w' => e = .returned (.bool true) ∧ Below w.heap.size w w' := by
  have hn : ∀ c d : Int, vld c d = true → (⟨(fmtIv a b).toArray⟩ : ByteArray).data.toList ≠ fmtIv c d := by
    intro c d hcd e
    have e2 : fmtIv a b = fmtIv c d := by simpa using e
    rw [fmt_no h] at e2
    exact fmt_ne hcd e2.symm
  have HN := Lib.hid hn
  clear hn
  have HV := Lib.hid h
  clear h
  have kb0 := Below.refl w.heap.size w
  go_enter Tryd.func6, Tryd.ntmps6
  go_wp2_with fail
  have hb1 := ba w (.cells #[.int .i64 a, .int .i64 b] 23)
  have kb1 := kb0.trans (hb1.mono kb0.size)
  have hr1 := hr.below hb1
  clear hb1 kb0
  have a_1 := Two.at (w.heap.size) w a b (by simp)
  obtain ⟨al, ap, aq⟩ := id a_1
  go_wp2_with fail
  refine (format_c a b l0 l1 _ hr1).mono ?_
  rintro e w2 ⟨rfl, hb2⟩
  have kb2 := kb1.trans (hb2.mono kb1.size)
  have hr2 := hr1.below hb2
  have a_2 := a_1.next hb2
  clear hb2 kb1 hr1 a_1
  clear al ap aq
  obtain ⟨al, ap, aq⟩ := id a_2
  go_wp2_with fail
  refine (examples_c _ hr2).mono ?_
  rintro e w3 ⟨rfl, hb3⟩
  have kb3 := kb2.trans (hb3.mono kb2.size)
  have hr3 := hr2.below hb3
  have a_3 := a_2.next hb3
  clear hb3 kb2 hr2 a_2
  clear al ap aq
  obtain ⟨al, ap, aq⟩ := id a_3
  go_wp2_with fail
  refine (rformat_c a b _).mono ?_
  rintro e w4 ⟨rfl, hb4⟩
  have kb4 := kb3.trans (hb4.mono kb3.size)
  have hr4 := hr3.below hb4
  have a_4 := a_3.next hb4
  clear hb4 kb3 hr3 a_3
  clear al ap aq
  obtain ⟨al, ap, aq⟩ := id a_4
  go_wp2_with fail
  refine (parse_no _ (fmt_size a b) HN.out _ hr4).mono ?_
  rintro e w5 ⟨rfl, hb5⟩
  have kb5 := kb4.trans (hb5.mono kb4.size)
  have hr5 := hr4.below hb5
  have a_5 := a_4.next hb5
  clear hb5 kb4 hr4 a_4
  clear al ap aq
  obtain ⟨al, ap, aq⟩ := id a_5
  have hb6 := ba w5 (.cells #[.int .i64 0, .int .i64 0] 23)
  have kb6 := kb5.trans (hb6.mono kb5.size)
  have hr6 := hr5.below hb6
  have a_6 := a_5.next hb6
  clear hb6 kb5 hr5 a_5
  have x_6 := Two.at (w5.heap.size) w5 0 0 (by simp)
  clear al ap aq
  obtain ⟨al, ap, aq⟩ := id a_6
  obtain ⟨xl, xp, xq⟩ := id x_6
  go_wp2_with fail
  refine (rvalid_c a b _).mono ?_
  rintro e w7 ⟨rfl, hb7⟩
  have kb7 := kb6.trans (hb7.mono kb6.size)
  have hr7 := hr6.below hb7
  have a_7 := a_6.next hb7
  have x_7 := x_6.next hb7
  clear hb7 kb6 hr6 a_6 x_6
  rw [HV.out]
  clear al ap aq xl xp xq
  obtain ⟨al, ap, aq⟩ := id a_7
  obtain ⟨xl, xp, xq⟩ := id x_7
  go_wp2_with fail
  go_ret
  exact ⟨rfl, kb7⟩

theorem text_w (a b : Int) (l0 : -9223372036854775808 ≤ a) (l1 : a ≤ 9223372036854775807) (_ : -9223372036854775808 ≤ b) (_ : b ≤ 9223372036854775807) (w : World) (hr : Ready w) :
    Calls Tryd.prog 6 #[iv a b] w fun e w' => e = .returned (.bool true) ∧ Below w.heap.size w w' := by
  cases h : vld a b
  · exact text_n a b l0 l1 h w hr
  · exact text_y a b l0 l1 h w hr

set_option maxHeartbeats 2000000 in
theorem parse_wl (s : ByteArray) (hl : 60 < s.size) (w : World) (hr : Ready w) :
    Calls Tryd.prog 7 #[.string s] w fun e w' => e = .returned (.bool true) ∧ Below w.heap.size w w' := by
  have hl2 : (60 : Int) < (s.size : Int) := by omega
  have kb0 := Below.refl w.heap.size w
  go_enter Tryd.func7, Tryd.ntmps7
  go_wp2_with fail
  refine (examples_c _ hr).mono ?_
  rintro e w1 ⟨rfl, hb1⟩
  have kb1 := kb0.trans (hb1.mono kb0.size)
  have hr1 := hr.below hb1
  clear hb1 kb0
  go_wp2_with fail
  refine (examples_c _ hr1).mono ?_
  rintro e w2 ⟨rfl, hb2⟩
  have kb2 := kb1.trans (hb2.mono kb1.size)
  have hr2 := hr1.below hb2
  clear hb2 kb1 hr1
  go_wp2_with fail
  go_ret
  exact ⟨rfl, kb2⟩

set_option maxHeartbeats 2000000 in
theorem parse_wy (s : ByteArray) (hl : s.size ≤ 60) (a b : Int) (h : vld a b = true) (hf : s.data.toList = fmtIv a b) (w : World) (hr : Ready w) :
    Calls Tryd.prog 7 #[.string s] w fun e w' => e = .returned (.bool true) ∧ Below w.heap.size w w' := by
  have hl2 : ¬ (60 : Int) < (s.size : Int) := by omega
  obtain ⟨a0, a1, a2⟩ := vld_iff.1 h
  have hq : (fmtIv a b == s.toList) = true := by rw [Lib.toList_data, hf]; simp
  have HV := Lib.hid h
  have HF := Lib.hid hf
  clear h hf
  have kb0 := Below.refl w.heap.size w
  go_enter Tryd.func7, Tryd.ntmps7
  go_wp2_with fail
  refine (examples_c _ hr).mono ?_
  rintro e w1 ⟨rfl, hb1⟩
  have kb1 := kb0.trans (hb1.mono kb0.size)
  have hr1 := hr.below hb1
  clear hb1 kb0
  go_wp2_with fail
  refine (parse_yes a b HV.out s (by omega) HF.out _ hr1).mono ?_
  rintro e w2 ⟨rfl, hb2⟩
  have kb2 := kb1.trans (hb2.mono kb1.size)
  have hr2 := hr1.below hb2
  clear hb2 kb1 hr1
  have hb3 := ba w2 (.cells #[.int .i64 a, .int .i64 b] 23)
  have kb3 := kb2.trans (hb3.mono kb2.size)
  have hr3 := hr2.below hb3
  clear hb3 kb2 hr2
  have x_3 := Two.at (w2.heap.size) w2 a b (by simp)
  obtain ⟨xl, xp, xq⟩ := id x_3
  go_wp2_with fail
  refine (rparse_yes a b HV.out s (by omega) HF.out _).mono ?_
  rintro e w4 ⟨rfl, hb4⟩
  have kb4 := kb3.trans (hb4.mono kb3.size)
  have hr4 := hr3.below hb4
  have x_4 := x_3.next hb4
  clear hb4 kb3 hr3 x_3
  clear xl xp xq
  obtain ⟨xl, xp, xq⟩ := id x_4
  have hb5 := ba w4 (.cells #[.int .i64 a, .int .i64 b] 23)
  have kb5 := kb4.trans (hb5.mono kb4.size)
  have hr5 := hr4.below hb5
  have x_5 := x_4.next hb5
  clear hb5 kb4 hr4 x_4
  have y_5 := Two.at (w4.heap.size) w4 a b (by simp)
  clear xl xp xq
  obtain ⟨xl, xp, xq⟩ := id x_5
  obtain ⟨yl, yp, yq⟩ := id y_5
  go_wp2_with fail
  refine (format_c a b (by omega) (by omega) _ hr5).mono ?_
  rintro e w6 ⟨rfl, hb6⟩
  have kb6 := kb5.trans (hb6.mono kb5.size)
  have hr6 := hr5.below hb6
  have x_6 := x_5.next hb6
  have y_6 := y_5.next hb6
  clear hb6 kb5 hr5 x_5 y_5
  clear xl xp xq yl yp yq
  obtain ⟨xl, xp, xq⟩ := id x_6
  obtain ⟨yl, yp, yq⟩ := id y_6
  go_wp2_with fail
  go_ret
  exact ⟨rfl, kb6⟩

set_option maxHeartbeats 2000000 in
theorem parse_wn (s : ByteArray) (hl : s.size ≤ 60) (hf : ∀ a b : Int, vld a b = true → s.data.toList ≠ fmtIv a b) (w : World) (hr : Ready w) :
    Calls Tryd.prog 7 #[.string s] w fun e w' => e = .returned (.bool true) ∧ Below w.heap.size w w' := by
  have hl2 : ¬ (60 : Int) < (s.size : Int) := by omega
  have HF := Lib.hid hf
  clear hf
  have kb0 := Below.refl w.heap.size w
  go_enter Tryd.func7, Tryd.ntmps7
  go_wp2_with fail
  refine (examples_c _ hr).mono ?_
  rintro e w1 ⟨rfl, hb1⟩
  have kb1 := kb0.trans (hb1.mono kb0.size)
  have hr1 := hr.below hb1
  clear hb1 kb0
  go_wp2_with fail
  refine (parse_no s (by omega) HF.out _ hr1).mono ?_
  rintro e w2 ⟨rfl, hb2⟩
  have kb2 := kb1.trans (hb2.mono kb1.size)
  have hr2 := hr1.below hb2
  clear hb2 kb1 hr1
  have hb3 := ba w2 (.cells #[.int .i64 0, .int .i64 0] 23)
  have kb3 := kb2.trans (hb3.mono kb2.size)
  have hr3 := hr2.below hb3
  clear hb3 kb2 hr2
  have x_3 := Two.at (w2.heap.size) w2 0 0 (by simp)
  obtain ⟨xl, xp, xq⟩ := id x_3
  go_wp2_with fail
  refine (rparse_no s (by omega) HF.out _).mono ?_
  rintro e w4 ⟨rfl, hb4⟩
  have kb4 := kb3.trans (hb4.mono kb3.size)
  have hr4 := hr3.below hb4
  have x_4 := x_3.next hb4
  clear hb4 kb3 hr3 x_3
  clear xl xp xq
  obtain ⟨xl, xp, xq⟩ := id x_4
  have hb5 := ba w4 (.cells #[.int .i64 0, .int .i64 0] 23)
  have kb5 := kb4.trans (hb5.mono kb4.size)
  have hr5 := hr4.below hb5
  have x_5 := x_4.next hb5
  clear hb5 kb4 hr4 x_4
  have y_5 := Two.at (w4.heap.size) w4 0 0 (by simp)
  clear xl xp xq
  obtain ⟨xl, xp, xq⟩ := id x_5
  obtain ⟨yl, yp, yq⟩ := id y_5
  go_wp2_with fail
  go_ret
  exact ⟨rfl, kb5⟩

theorem parse_w (s : ByteArray) (w : World) (hr : Ready w) :
    Calls Tryd.prog 7 #[.string s] w fun e w' => e = .returned (.bool true) ∧ Below w.heap.size w w' := by
  by_cases hl : s.size ≤ 60
  · by_cases h : ∃ a b : Int, vld a b = true ∧ s.data.toList = fmtIv a b
    · obtain ⟨a, b, h, hf⟩ := h
      exact parse_wy s hl a b h hf w hr
    · exact parse_wn s hl (fun a b hv e => h ⟨a, b, hv, e⟩) w hr
  · exact parse_wl s (by omega) w hr
end Go.Proofs.YtmihogccpgdpaaaDoor
