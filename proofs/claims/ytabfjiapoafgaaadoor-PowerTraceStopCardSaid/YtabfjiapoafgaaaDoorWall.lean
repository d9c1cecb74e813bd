/-
  PowerTraceAll and PowerTraceCount.
-/
import Derived.Test.YtabfjiapoafgaaaDoorExm
import Derived.Test.YtabfjiapoafgaaaDoorRll
import Derived.Test.YtabfjiapoafgaaaDoorWfm
namespace Go.Proofs.YtabfjiapoafgaaaDoor
open Go.RowKit
set_option linter.unusedVariables false
attribute [local go_sem ↓] Go.wp_at_zero Go.wp_at_succ

/-- first, read -/
theorem first_r (f m o : Int) (lim : Nat) (hf : f ≤ 200) (hlim : 1 ≤ lim) (hl2 : lim ≤ 1000) (w : World) : Calls Tryd.prog 24 #[.int .i64 f, .int .i64 m, .int .i64 o, .int .i64 lim] w fun e w' => ∃ A cap Ls, e = .returned (.tuple #[.slice A Ls.length cap, .bool true]) ∧ Rws w' A Ls ∧ FirstL m.toNat o (outN f m o lim) Ls ∧ Below w.heap.size w w' := by
  refine (first_any f m o lim hf hlim hl2 w).mono ?_
  rintro e w' ⟨v, vs, Ls, rfl, hown, hfin, hfl, hb⟩
  obtain ⟨A, cap, rfl, R⟩ := Rws.of_own hown hfin
  exact ⟨A, cap, Ls, rfl, R, hfl, hb⟩
theorem outN_le (f m o : Int) (lim : Nat) : outN f m o lim ≤ lim := by
  unfold outN
  split
  · exact Nat.min_le_left _ _
  · omega
/-- a schedule of the first is short -/
theorem FirstL.short {m K : Nat} {o : Int} {Ls : List (List (Int × Int))} (h : FirstL m o K Ls) {j : Nat} {r : List (Int × Int)} (hj : Ls[j]? = some r) : r.length ≤ K := by
  have hjl := (List.getElem?_eq_some_iff.1 hj).1
  rw [h.len] at hjl
  obtain ⟨es, hk, rfl⟩ := h.at_ j r hj
  have h1 := hk.bound.1
  have h2 := offN_ge (m + 1) (by omega) es.length
  rw [List.length_map]
  omega
/-- two lists of schedules, and one of each at hand -/
structure BS (w0 : World) (L : List (List (Int × Int))) (a b : Addr) (j n : Nat) (D2 D3 : Option Addr) (k2 k3 : Nat) (r : List (Int × Int)) (W : World) : Prop where
  below : Below w0.heap.size w0 W
  la : (a.add j).block < W.heap.size
  lb : (b.add j).block < W.heap.size
  ra : Rws W (some a) L
  rb : Rws W (some b) L
  ca : W.cell? (a.add j) = some (.slice D2 n k2)
  cb : W.cell? (b.add j) = some (.slice D3 n k3)
  pa : Prs W D2 r
  pb : Prs W D3 r
theorem BS.next {w0 W W' : World} {L : List (List (Int × Int))} {a b : Addr} {j n k2 k3 : Nat} {D2 D3 : Option Addr} {r : List (Int × Int)} (h : BS w0 L a b j n D2 D3 k2 k3 r W) (hb : Below W.heap.size W W') : BS w0 L a b j n D2 D3 k2 k3 r W' :=
  ⟨bt h.below hb, Nat.lt_of_lt_of_le h.la hb.size, Nat.lt_of_lt_of_le h.lb hb.size, h.ra.next hb, h.rb.next hb, (hb.cell h.la).trans h.ca, (hb.cell h.lb).trans h.cb, h.pa.next hb, h.pb.next hb⟩
set_option maxRecDepth 100000 in
set_option maxHeartbeats 2000000 in
theorem powerTraceAll_w (f m o : Int) (hf : B64 f) (hm : B64 m) (ho : B64 o) (w : World) (hr : Ready w) : Calls Tryd.prog 6 #[.int .i64 f, .int .i64 m, .int .i64 o] w fun e w' => e = .returned (.bool true) ∧ Below w.heap.size w w' := by
  have HR := Lib.hid hr
  go_enter Tryd.func6, Tryd.ntmps6
  go_wp2_with fail
  refine (examples_c _ hr).mono ?_
  rintro e w1 ⟨rfl, hb1⟩
  have HB1 := Lib.hid hb1
  clear hb1 hr
  by_cases h40 : 40 < f
  · go_wp2_with fail
    refine (examples_c _ (HR.out.below HB1.out)).mono ?_
    rintro e w2 ⟨rfl, hb2⟩
    go_wp2_with fail
    go_ret
    exact ⟨rfl, bt HB1.out hb2⟩
  · go_wp2_with fail
    refine (first_r f m o 300 (by omega) (by decide) (by decide) _).mono ?_
    rintro e w2 ⟨A, cap, Ls, rfl, R, hfl, hb2⟩
    have HB2 := Lib.hid (bt HB1.out hb2)
    have HR2 := Lib.hid R
    have HFL := Lib.hid hfl
    clear hb2 R hfl
    go_wp2_with fail
    refine (rall_any f m o 300 (by omega) (by decide) _).mono ?_
    rintro e w3 ⟨A3, cap3, Ls3, rfl, R3, hfl3, hb3⟩
    obtain rfl := HFL.out.uniq hfl3
    have HB3 := Lib.hid (bt HB2.out hb3)
    have HR23 := Lib.hid (HR2.out.next hb3)
    have HR3 := Lib.hid R3
    have hll : Ls.length ≤ 300 := by have := hfl3.len; have := outN_le f m o 300; omega
    have hllI : (Ls.length : Int) ≤ 300 := by omega
    clear hb3 R3 hfl3 HR2
    go_wp2_with fail
    go_loopw [40] (fun i wr => ∃ j : Nat, j ≤ Ls.length ∧ i = .int .i64 j ∧ Below w.heap.size w wr ∧ Rws wr A Ls ∧ Rws wr A3 Ls) (fun i _ => Ls.length - (intOf i).toNat)
    case atStart => exact ⟨0, by omega, rfl, HB3.out, HR23.out, HR3.out⟩
    case round =>
      obtain ⟨j, hj, rfl, hb, C2, C3⟩ := hrel
      have HB := Lib.hid hb
      by_cases hlt : j < Ls.length
      · have hx := List.getElem?_eq_getElem hlt
        have hsh := HFL.out.short hx
        have hol := outN_le f m o 300
        obtain ⟨ad2, D2, k2, rfl, l2, c2, E2⟩ := C2.at_ j _ hx
        obtain ⟨ad3, D3, k3, rfl, l3, c3, E3⟩ := C3.at_ j _ hx
        generalize Ls[j] = r at *
        have hjI : (j : Int) < (Ls.length : Int) := by omega
        have hj0 : (0 : Int) ≤ (j : Int) := by omega
        have HSM := Lib.hid (fun W h1 h2 => same_r r (by omega) D2 D3 k2 k3 W h1 h2)
        have K : BS w Ls ad2 ad3 j r.length D2 D3 k2 k3 r wr := ⟨HB.out, l2, l3, C2, C3, c2, c3, E2, E3⟩
        replace K := K.next wr.drewB
        clear C2 C3 hb hx E2 E3 hsh hol
        go_wp2_with fail
        go_region_held3 (fun w' => w'.cell? (ad2.add j) = some (.slice D2 r.length k2) ∧ w'.cell? (ad3.add j) = some (.slice D3 r.length k3) ∧ BS w Ls ad2 ad3 j r.length D2 D3 k2 k3 r w') (first | exact ⟨K.ca, K.cb, K⟩ | go_keep)
          (first | (go_at_call 18; (with_reducible refine (HSM.out _ K.pa K.pb).mono ?_); rintro e w1 ⟨rfl, hb1⟩; replace K := K.next hb1))
        all_goals
          go_wp2_with fail
          go_roundw
          case rel => exact ⟨j + 1, by omega, by go_num, K.below, K.ra, K.rb⟩
          case measure => simp [intOf]; omega
      · obtain rfl : j = Ls.length := by omega
        go_wp2_with fail
        go_ret
        exact ⟨rfl, HB.out⟩
theorem out_cnt {f m : Int} (h : cntI f m ≤ 200) : (outN f m 1 300 : Int) = cntI f m := by
  unfold outN okA
  unfold cntI at *
  by_cases hc : 0 ≤ f ∧ (0 ≤ m ∧ m ≤ 1073741824)
  · rw [if_pos hc] at h ⊢
    rw [if_pos (by rw [decide_eq_true_iff]; omega)]
    unfold cntN at *
    omega
  · rw [if_neg hc, if_neg (by rw [decide_eq_true_iff]; omega)]
    rfl
theorem cntI_b (f m : Int) : 0 ≤ cntI f m ∧ cntI f m ≤ 4611686018427387904 := by
  unfold cntI
  split
  · unfold cntN; omega
  · omega
set_option maxRecDepth 100000 in
set_option maxHeartbeats 2000000 in
theorem powerTraceCount_w (f m : Int) (hf : B64 f) (hm : B64 m) (w : World) (hr : Ready w) : Calls Tryd.prog 7 #[.int .i64 f, .int .i64 m] w fun e w' => e = .returned (.bool true) ∧ Below w.heap.size w w' := by
  have HR := Lib.hid hr
  go_enter Tryd.func7, Tryd.ntmps7
  go_wp2_with fail
  refine (examples_c _ hr).mono ?_
  rintro e w1 ⟨rfl, hb1⟩
  have HB1 := Lib.hid hb1
  clear hb1 hr
  by_cases h40 : 100 < f
  · go_wp2_with fail
    refine (examples_c _ (HR.out.below HB1.out)).mono ?_
    rintro e w2 ⟨rfl, hb2⟩
    go_wp2_with fail
    go_ret
    exact ⟨rfl, bt HB1.out hb2⟩
  · have HO := Lib.hid (fun h => out_cnt (f := f) (m := m) h)
    have hcb := cntI_b f m
    have HCC := Lib.hid (fun W => count_c f m (by omega) W)
    have HRC := Lib.hid (fun W => rcount_c f m (by omega) W)
    generalize cntI f m = n at *
    go_wp2_with fail
    refine (HCC.out _).mono ?_
    rintro e w2 ⟨rfl, hb2⟩
    have HB2 := Lib.hid (bt HB1.out hb2)
    clear hb2
    go_wp2_with fail
    refine (HRC.out _).mono ?_
    rintro e w3 ⟨rfl, hb3⟩
    have HB3 := Lib.hid (bt HB2.out hb3)
    clear hb3
    by_cases h200 : 200 < n
    · go_wp2_with fail
      go_ret
      exact ⟨rfl, HB3.out⟩
    · have ho := HO.out (by omega)
      have HOO := Lib.hid ho
      clear ho
      go_wp2_with fail
      refine (first_r f m 1 300 (by omega) (by decide) (by decide) _).mono ?_
      rintro e w4 ⟨A, cap, Ls, rfl, R, hfl, hb4⟩
      have hlen : (Ls.length : Int) = n := by rw [hfl.len]; exact HOO.out
      have HB4 := Lib.hid (bt HB3.out hb4)
      clear R hfl hb4
      go_wp2_with fail
      go_ret
      exact ⟨ret_bool (by simp), HB4.out⟩
end Go.Proofs.YtabfjiapoafgaaaDoor
