/-
  TraceAttempts.
-/
import Derived.Test.YtdfconiahfdhbaaDoorAwk
import Derived.Test.YtdfconiahfdhbaaDoorAtr
import Derived.Test.YtdfconiahfdhbaaDoorWfr
namespace Go.Proofs.YtdfconiahfdhbaaDoor
open Go.RowKit
attribute [local go_sem ↓] Go.wp_at_zero Go.wp_at_succ

theorem atsF_len {l : List Ev} : ∀ (f i : Nat), (atsF l f i).length ≤ f
  | 0, i => Nat.le_refl _
  | f + 1, i => by
    unfold atsF
    split
    · simp
    · split
      · rw [List.length_cons]; exact Nat.succ_le_succ (atsF_len (l := l) f _)
      · have := atsF_len (l := l) f (i + 1); omega
theorem atsL_len (l : List Ev) : (atsL l 0).length ≤ l.length := by
  have := atsF_len (l := l) (l.length - 0) 0
  unfold atsL
  omega
set_option maxRecDepth 100000 in
set_option maxHeartbeats 4000000 in
theorem traceAttempts_w (l : List Ev) (hlm : (l.length : Int) ≤ 9223372036854775807) (A : Option Addr) (cap : Nat) (w : World) (hr : Rdy w) (C : Evs w A l) : Calls Tryd.prog 7 #[.slice A l.length cap] w fun e w' => e = .returned (.bool true) ∧ Below w.heap.size w w' := by
  have HC := Lib.hid C
  clear C
  go_enter Tryd.func7, Tryd.ntmps7
  go_wp2_with fail
  refine (awake_c _ hr).mono ?_
  rintro e w1 ⟨rfl, hb1⟩
  have HB1 := Lib.hid hb1
  clear hb1
  by_cases h80 : 80 < l.length
  · have h80I : (80 : Int) < (l.length : Int) := by omega
    go_wp2_with fail
    go_ret
    exact ⟨rfl, HB1.out⟩
  · have h80I : ¬ (80 : Int) < (l.length : Int) := by omega
    have hl : l.length ≤ 80 := by omega
    go_wp2_with fail
    refine (attempts_c l hl A cap _ (HC.out.next HB1.out)).mono ?_
    rintro e w2 ⟨A2, cap2, rfl, C2, hb2, -⟩
    have HB2 := Lib.hid (bt HB1.out hb2)
    have HC2 := Lib.hid C2
    clear hb2 C2
    go_wp2_with fail
    refine (rattempts_c l hl A cap _ (HC.out.next HB2.out)).mono ?_
    rintro e w3 ⟨A3, cap3, rfl, C3, hb3, -⟩
    have HB3 := Lib.hid (bt HB2.out hb3)
    have HC3 := Lib.hid C3
    have HC23 := Lib.hid (HC2.out.next hb3)
    clear hb3 C3 HC2
    have hal := atsL_len l
    generalize atsL l 0 = a at *
    have ha80 : (a.length : Int) ≤ 80 := by omega
    clear hal
    go_wp2_with fail
    go_loopw [23] (fun s23 wr => ∃ j : Nat, j ≤ a.length ∧ s23 = .int .i64 j ∧ Below w.heap.size w wr ∧ Atts wr A2 a ∧ Atts wr A3 a) (fun s23 _ => a.length - (intOf s23).toNat)
    case atStart => exact ⟨0, by omega, rfl, HB3.out, HC23.out, HC3.out⟩
    case round =>
      obtain ⟨j, hj, rfl, hb, C2, C3⟩ := hrel
      have HB := Lib.hid hb
      by_cases hlt : j < a.length
      · have hx := List.getElem?_eq_getElem hlt
        obtain ⟨ad2, rfl, E2⟩ := C2.at_ j _ hx
        obtain ⟨ad3, rfl, E3⟩ := C3.at_ j _ hx
        generalize a[j] = x at *
        have HBX := ba wr (.cells #[.int .i64 x.fr, .int .i64 x.tt, .int .i64 x.task, .bool x.com] 47)
        have H2 := Lib.hid (C2.next HBX)
        have H3 := Lib.hid (C3.next HBX)
        have HBN := Lib.hid (bt HB.out HBX)
        obtain ⟨_, c0, c1, c2, c3⟩ := E2
        obtain ⟨_, d0, d1, d2, d3⟩ := E3
        clear HBX C2 C3 hb hx
        go_wp2_with fail
        go_quiet (fail)
        go_wp2_with fail
        go_roundw
        case rel => exact ⟨j + 1, by omega, by go_num, bdn HBN.out _, H2.out.next (below_drewN _ _), H3.out.next (below_drewN _ _)⟩
        case measure => simp [intOf]; omega
      · obtain rfl : j = a.length := by omega
        go_wp2_with fail
        go_ret
        exact ⟨rfl, HB.out⟩
theorem traceAttempts_f (l : List Ev) (hlm : (l.length : Int) ≤ 9223372036854775807) (_hb : InL l) (w : World) (hr : RdyF w) (A : Option Addr) (cap : Nat) (C : Evs w A l) : Calls Tryd.prog 7 #[.slice A l.length cap] w fun e w' => e = .returned (.bool true) ∧ Below w.heap.size w w' := traceAttempts_w l hlm A cap w hr.rdy C
end Go.Proofs.YtdfconiahfdhbaaDoor
