/-
  TraceReadings.
-/
import Derived.Test.YtdfconiahfdhbaaDoorAwk
import Derived.Test.YtdfconiahfdhbaaDoorRdw
import Derived.Test.YtdfconiahfdhbaaDoorRdr
import Derived.Test.YtdfconiahfdhbaaDoorWfr
import Derived.Test.YtdfconiahfdhbaaDoorOpenL
import Derived.BigQuiet
namespace Go.Proofs.YtdfconiahfdhbaaDoor
open Go.ChangeShapes Go.WideShapes Go.RowKit Go.Deep
attribute [local go_sem ↓] Go.wp_at_zero Go.wp_at_succ

set_option maxRecDepth 100000 in
/-- the events opened, and that they fit their array -/
theorem open_events2 {H : Type} {enc : TypeId × Value → H} {w : World} {base : Nat} {spare : Nat → Bool} {held : Bool} {r : Reach} {b0 : Nat} {v : Value} {d : DataW H} {p : List MemPlace}
    (hv : Value.okWide Tryd.prog w r b0 22 v) (h : DataW.Trod enc Tryd.prog w base spare held 22 v d p) :
    ∃ (A : Option Addr) (l : List Ev) (cap : Nat), v = .slice A l.length cap ∧ (l.length : Int) ≤ 9223372036854775807 ∧ InL l ∧ Evs w A l ∧ l.length ≤ cap := by
  obtain ⟨A, l, cap, hvv, h1, h2, h3⟩ := open_events hv h
  obtain ⟨A', len, cap', hv', hlc, -⟩ := open_structs Tryd.underlying22 Tryd.underlying26 (by kernel_rfl) (show Tryd.prog.cellsOf 26 = 6 by kernel_rfl) hv h
  rw [hvv] at hv'
  cases hv'
  exact ⟨A, l, cap, hvv, h1, h2, h3, hlc⟩
set_option maxRecDepth 100000 in
set_option maxHeartbeats 4000000 in
theorem traceReadings_w (l : List Ev) (hlm : (l.length : Int) ≤ 9223372036854775807) (A : Option Addr) (cap : Nat) (w : World) (hr : Rdy w) (C : Evs w A l) (hcap : l.length ≤ cap) : Calls Tryd.prog 9 #[.slice A l.length cap] w fun e w' => e = .returned (.bool true) ∧ Below w.heap.size w w' := by
  have HC := Lib.hid C
  clear C
  go_enter Tryd.func9, Tryd.ntmps9
  go_wp2_with fail
  refine (awake_c _ hr).mono ?_
  rintro e w1 ⟨rfl, hb1⟩
  have HB1 := Lib.hid hb1
  clear hb1
  by_cases h80 : 80 < l.length
  · have h80I : (80 : Int) < (l.length : Int) := by omega
    go_wp2_with fail
    go_ret
    exact ⟨rfl, HB1.out⟩
  · have h80I : ¬ (80 : Int) < (l.length : Int) := by omega
    have hl : l.length ≤ 80 := by omega
    go_wp2_with fail
    refine (readings_c l hl A cap hcap _ (HC.out.next HB1.out)).mono ?_
    rintro e w2 ⟨A2, cap2, rfl, C2, hb2⟩
    have HB2 := Lib.hid (bt HB1.out hb2)
    have HC2 := Lib.hid C2
    clear hb2 C2
    go_wp2_with fail
    refine (rreadings_c l hl A cap _ (HC.out.next HB2.out)).mono ?_
    rintro e w3 ⟨A3, cap3, rfl, C3, hb3⟩
    have HB3 := Lib.hid (bt HB2.out hb3)
    have HC3 := Lib.hid C3
    have HC23 := Lib.hid (HC2.out.next hb3)
    clear hb3 C3 HC2
    have hrl : (rows l (atsL l 0) l.length).length ≤ 80 := by
      have := begs_len l l.length
      unfold rows
      rw [List.length_map]
      omega
    have HRL := Lib.hid (show ∀ r ∈ rows l (atsL l 0) l.length, r.length ≤ 6400 from by
      rw [← rowsTo_all]
      exact rowsTo_le (ats_in (l := l) l.length 0 (by omega)) (by have := atsL_len l; omega) hl _)
    generalize rows l (atsL l 0) l.length = R at *
    have hrI : (R.length : Int) ≤ 80 := by omega
    go_wp2_with fail
    go_loopw [23] (fun s23 wr => ∃ j : Nat, j ≤ R.length ∧ s23 = .int .i64 j ∧ Below w.heap.size w wr ∧ Rws wr A2 R ∧ Rws wr A3 R) (fun s23 _ => R.length - (intOf s23).toNat)
    case atStart => exact ⟨0, by omega, rfl, HB3.out, HC23.out, HC3.out⟩
    case round =>
      obtain ⟨j, hj, rfl, hb, C2, C3⟩ := hrel
      have HB := Lib.hid hb
      by_cases hlt : j < R.length
      · have hx := List.getElem?_eq_getElem hlt
        have hrle := HRL.out _ (List.getElem_mem hlt)
        obtain ⟨ad2, D2, k2, rfl, l2, c2, E2⟩ := C2.at_ j _ hx
        obtain ⟨ad3, D3, k3, rfl, l3, c3, E3⟩ := C3.at_ j _ hx
        generalize R[j] = r at *
        have hrI2 : (r.length : Int) ≤ 6400 := by omega
        have H2 := Lib.hid (fun n => C2.next (below_drewN wr n))
        have H3 := Lib.hid (fun n => C3.next (below_drewN wr n))
        have HE2 := Lib.hid (fun n => E2.next (below_drewN wr n))
        have HE3 := Lib.hid (fun n => E3.next (below_drewN wr n))
        have HBN := Lib.hid (fun n => bdn HB.out n)
        clear C2 C3 hb hx E2 E3
        go_wp2_with fail
        go_quiet (fail)
        go_wp2_with fail
        go_loopw [42] (fun s42 W => ∃ k : Nat, k ≤ r.length ∧ s42 = .int .i64 k ∧ Below w.heap.size w W ∧ Rws W (some ad2) R ∧ Rws W (some ad3) R ∧ W.cell? (ad2.add j) = some (.slice D2 r.length k2) ∧ W.cell? (ad3.add j) = some (.slice D3 r.length k3) ∧ Rds W D2 r ∧ Rds W D3 r) (fun s42 _ => r.length - (intOf s42).toNat)
        case atStart => exact ⟨0, by omega, rfl, HBN.out _, H2.out _, H3.out _, by simpa using c2, by simpa using c3, HE2.out _, HE3.out _⟩
        case round =>
          obtain ⟨k, hk, rfl, hb, C2, C3, c2, c3, E2, E3⟩ := hrel
          by_cases hltk : k < r.length
          · have hy := List.getElem?_eq_getElem hltk
            obtain ⟨p2, rfl, F2⟩ := E2.at_ k _ hy
            obtain ⟨p3, rfl, F3⟩ := E3.at_ k _ hy
            generalize r[k] = y at *
            have HF := Lib.hid (And.intro hb (And.intro C2 (And.intro C3 (And.intro E2 E3))))
            obtain ⟨_, x0, x1⟩ := F2
            obtain ⟨_, y0, y1⟩ := F3
            have HCC := Lib.hid (And.intro c2 c3)
            clear hb C2 C3 E2 E3 hy
            go_wp2_with fail
            go_quiet (fail)
            go_wp2_with fail
            go_roundw
            case rel => exact ⟨k + 1, by omega, by go_num, bdn HF.out.1 _, HF.out.2.1.next (below_drewN _ _), HF.out.2.2.1.next (below_drewN _ _), by simpa using HCC.out.1, by simpa using HCC.out.2, HF.out.2.2.2.1.next (below_drewN _ _), HF.out.2.2.2.2.next (below_drewN _ _)⟩
            case measure => simp [intOf]; omega
          · obtain rfl : k = r.length := by omega
            have HF := Lib.hid (And.intro hb (And.intro C2 C3))
            clear hb C2 C3 E2 E3
            go_wp2_with fail
            go_roundw
            case rel => exact ⟨j + 1, by omega, by go_num, HF.out.1, HF.out.2.1, HF.out.2.2⟩
            case measure => simp [intOf]; omega
      · obtain rfl : j = R.length := by omega
        go_wp2_with fail
        go_ret
        exact ⟨rfl, HB.out⟩
theorem traceReadings_f (l : List Ev) (hlm : (l.length : Int) ≤ 9223372036854775807) (_hb : InL l) (w : World) (hr : RdyF w) (A : Option Addr) (cap : Nat) (C : Evs w A l ∧ l.length ≤ cap) : Calls Tryd.prog 9 #[.slice A l.length cap] w fun e w' => e = .returned (.bool true) ∧ Below w.heap.size w w' := traceReadings_w l hlm A cap w hr.rdy C.1 C.2
end Go.Proofs.YtdfconiahfdhbaaDoor
