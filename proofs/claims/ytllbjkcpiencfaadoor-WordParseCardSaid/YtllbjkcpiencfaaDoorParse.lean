/-
  word.Format, word.Parse: what they return.
-/
import Derived.Test.YtllbjkcpiencfaaDoorBase
import Derived.Outline
namespace Go.Proofs.YtllbjkcpiencfaaDoor
open Go.RowKit

theorem format_c (n : Int) (h0 : -32768 ≤ n) (h1 : n ≤ 32767) (w : World) (hr : Ready w) :
    Calls Tryd.prog 28 #[.int .i16 n] w fun e w' => e = .returned (.string ⟨(Lib.itoa n).toArray⟩) ∧ Below w.heap.size w w' := by
  go_enter Tryd.func28, Tryd.ntmps28
  go_wp2_with (go_at_call 36; refine (itoa_c _ (by omega) (by omega) _ hr).mono ?_; rintro e w1 ⟨rfl, hb⟩)
  go_ret
  exact ⟨rfl, hb⟩

theorem parse_yes (n : Int) (h0 : -32768 ≤ n) (h1 : n ≤ 32767) (s : ByteArray) (hs : s.size ≤ 140737488351232) (h : s.data.toList = Lib.itoa n) (w : World) (hr : Ready w) :
    Calls Tryd.prog 29 #[.string s] w fun e w' => e = .returned (.tuple #[.int .i16 n, .int .i64 0]) ∧ Below w.heap.size w w' := by
  have hp : Lib.parseIntB 16 s.data.toList = .ok n := by rw [h]; exact Dec.parseIntB_itoa 16 n (by decide) (by decide) (by simpa using h0) (by simp; omega)
  have hq : (!Lib.itoa n == s.toList) = false := by rw [Lib.toList_data, h]; simp
  clear h
  go_enter Tryd.func29, Tryd.ntmps29
  go_wp2_with fail
  refine (parse16_ok s hs n hp w).mono ?_
  rintro e w1 ⟨rfl, hb1⟩
  have hr1 := hr.below hb1
  go_wp2_with fail
  refine (format_c _ h0 h1 _ hr1).mono ?_
  rintro e w2 ⟨rfl, hb2⟩
  go_wp2_with fail
  go_ret2
  exact ⟨rfl, hb1.trans (hb2.mono hb1.size)⟩

theorem parse_no (s : ByteArray) (hs : s.size ≤ 140737488351232) (h : ∀ n : Int, -32768 ≤ n → n ≤ 32767 → s.data.toList ≠ Lib.itoa n) (w : World) (hr : Ready w) :
    Calls Tryd.prog 29 #[.string s] w fun e w' => e = .returned (.tuple #[.int .i16 0, .int .i64 2]) ∧ Below w.heap.size w w' := by
  by_cases hp : ∃ n, Lib.parseIntB 16 s.data.toList = .ok n
  · obtain ⟨n, hp⟩ := hp
    have hbd := Lib.parseIntB_bounds hp
    have h0 : -32768 ≤ n := by have := hbd.1; simpa using this
    have h1 : n ≤ 32767 := by have := hbd.2; simp at this; omega
    have hq : (!Lib.itoa n == s.toList) = true := by
      have := h n h0 h1
      rw [Lib.toList_data]
      simpa using fun e => this e.symm
    clear h hbd
    go_enter Tryd.func29, Tryd.ntmps29
    go_wp2_with fail
    refine (parse16_ok s hs n hp w).mono ?_
    rintro e w1 ⟨rfl, hb1⟩
    have hr1 := hr.below hb1
    go_wp2_with fail
    refine (format_c _ h0 h1 _ hr1).mono ?_
    rintro e w2 ⟨rfl, hb2⟩
    go_wp2_with fail
    go_ret2
    exact ⟨rfl, hb1.trans (hb2.mono hb1.size)⟩
  · have hp' : ∀ v, Lib.parseIntB 16 s.data.toList ≠ .ok v := fun v hv => hp ⟨v, hv⟩
    clear h hp
    go_enter Tryd.func29, Tryd.ntmps29
    go_wp2_with fail
    refine (parse16_bad s hs hp' w hr).mono ?_
    rintro e w1 ⟨n, N, n0, n1, rfl, hb1⟩
    clear hp'
    go_wp2_with fail
    go_ret2
    exact ⟨rfl, hb1⟩
end Go.Proofs.YtllbjkcpiencfaaDoor
