/-
  TraceFormats.
-/
import Derived.Test.YtdfconiahfdhbaaDoorAwk
namespace Go.Proofs.YtdfconiahfdhbaaDoor
open Go.RowKit
attribute [local go_sem ↓] Go.wp_at_zero Go.wp_at_succ

theorem rvalid_l (e : Ev) (h : InE e) {b : Bool} (hv : validE e = b) (w : World) : Calls Tryd.prog 12 #[.agg #[.int .i64 e.kind, .int .i64 e.time, .int .i64 e.task, .int .i64 e.n, .int .i16 e.value, .int .i64 e.port]] w fun r w' => r = .returned (.bool b) ∧ Below w.heap.size w w' := by rw [← hv]; exact rvalid_c e h w
set_option maxRecDepth 100000 in
set_option maxHeartbeats 4000000 in
theorem traceFormats_w (l : List Ev) (hlm : (l.length : Int) ≤ 9223372036854775807) (hin : InL l) (A : Option Addr) (cap : Nat) (w : World) (hr : Rdy w) (C : Evs w A l) : Calls Tryd.prog 3 #[.slice A l.length cap] w fun e w' => e = .returned (.bool true) ∧ Below w.heap.size w w' := by
  have HC := Lib.hid C
  have HI := Lib.hid hin
  have HRD := Lib.hid (fun W (hb : Below w.heap.size w W) => hr.next hb)
  clear C hin
  go_enter Tryd.func3, Tryd.ntmps3
  go_wp2_with fail
  refine (awake_c _ hr).mono ?_
  rintro e w1 ⟨rfl, hb1⟩
  have HB1 := Lib.hid hb1
  clear hb1
  by_cases h80 : 80 < l.length
  · have h80I : (80 : Int) < (l.length : Int) := by omega
    go_wp2_with fail
    go_ret
    exact ⟨rfl, HB1.out⟩
  · have h80I : ¬ (80 : Int) < (l.length : Int) := by omega
    go_wp2_with fail
    go_loopw [12] (fun i wr => ∃ j : Nat, j ≤ l.length ∧ i = .int .i64 j ∧ Below w.heap.size w wr) (fun i _ => l.length - (intOf i).toNat)
    case atStart => exact ⟨0, by omega, rfl, HB1.out⟩
    case round =>
      obtain ⟨j, hj, rfl, hb⟩ := hrel
      have HB := Lib.hid hb
      by_cases hlt : j < l.length
      · obtain ⟨ad, rfl, EA⟩ := (HC.out.next hb).at_ j _ (List.getElem?_eq_getElem hlt)
        have HX := Lib.hid (HI.out l[j] (List.getElem_mem hlt))
        clear hb
        generalize l[j] = e at *
        have K1 := EX.start wr e 26
        have B1 := HB.out.trans ((ba wr (.cells #[.int .i64 e.kind, .int .i64 e.time, .int .i64 e.task, .int .i64 e.n, .int .i16 e.value, .int .i64 e.port] 26)).mono HB.out.size)
        have HK := Lib.hid (And.intro (K1.next (World.drewB _)) B1.drew)
        obtain ⟨_, c0, c1, c2, c3, c4, c5⟩ := EA
        clear K1 B1
        obtain ⟨b, hv⟩ : ∃ b, validE e = b := ⟨_, rfl⟩
        have HV := Lib.hid hv
        clear hv
        go_wp2_with fail
        have K := HK.out.1
        have KB := HK.out.2
        clear HK
        generalize wr.heap.size = B at *
        go_region_held3 (fun w' => w'.cell? ⟨B, 0, none⟩ = some (.int .i64 e.kind) ∧ w'.cell? ⟨B, 1, none⟩ = some (.int .i64 e.time) ∧ w'.cell? ⟨B, 2, none⟩ = some (.int .i64 e.task) ∧ w'.cell? ⟨B, 3, none⟩ = some (.int .i64 e.n) ∧ w'.cell? ⟨B, 4, none⟩ = some (.int .i16 e.value) ∧ w'.cell? ⟨B, 5, none⟩ = some (.int .i64 e.port)) (first | exact ⟨K.c0, K.c1, K.c2, K.c3, K.c4, K.c5⟩ | go_keep)
          (first
            | (go_at_call 11; (with_reducible refine (valid_l e HX.out HV.out _ (HRD.out _ KB).k).mono ?_); rintro r w7 ⟨rfl, hb7⟩; replace K := K.next hb7; replace KB := bt KB hb7)
            | (go_at_call 12; (with_reducible refine (rvalid_l e HX.out HV.out _).mono ?_); rintro r w8 ⟨rfl, hb8⟩; replace K := K.next hb8; replace KB := bt KB hb8))
        all_goals
          have HKB := Lib.hid KB
          clear K KB
          go_wp2_with fail
          go_roundw
          case rel => exact ⟨j + 1, by omega, by go_num, HKB.out⟩
          case measure => simp [intOf]; omega
      · obtain rfl : j = l.length := by omega
        clear hb
        go_wp2_with fail
        refine (format_c l (by omega) HI.out A cap _ (HRD.out _ HB.out) (HC.out.next HB.out)).mono ?_
        rintro e w3 ⟨rfl, hb3⟩
        have HB3 := Lib.hid (bt HB.out hb3)
        clear hb3
        go_wp2_with fail
        refine (rformat_c l (by omega) HI.out A cap _ (HRD.out _ HB3.out) (HC.out.next HB3.out)).mono ?_
        rintro e w4 ⟨rfl, hb4⟩
        have HB4 := Lib.hid (bt HB3.out hb4)
        clear hb4
        go_wp2_with fail
        go_ret
        exact ⟨ret_bool (by simp), HB4.out⟩
end Go.Proofs.YtdfconiahfdhbaaDoor
