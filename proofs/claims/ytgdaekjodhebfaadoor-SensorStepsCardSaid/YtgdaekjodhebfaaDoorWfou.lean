/-
  The walk of SensorCopies.
-/
import Derived.Test.YtgdaekjodhebfaaDoorWone
namespace Go.Proofs.YtgdaekjodhebfaaDoor
open Go.RowKit
attribute [local go_sem ↓] Go.wp_at_zero Go.wp_at_succ

/-- a trace whose blocks are of a kind -/
structure TrF (P : Nat → Prop) (w : World) (tp : Nat) (l : List (Int × Int)) : Prop where
  lt : tp < w.heap.size
  far : P tp
  is : ∃ A cap, w.cell? ⟨tp, 0, none⟩ = some (.slice A l.length cap) ∧ l.length ≤ cap ∧ Chs w A l ∧ ∀ ad, A = some ad → l ≠ [] → P ad.block
theorem TrF.trc {P : Nat → Prop} {w : World} {tp : Nat} {l : List (Int × Int)} (h : TrF P w tp l) : Trc w tp l := by
  obtain ⟨A, cap, h1, h2, h3, -⟩ := h.is
  exact ⟨h.lt, A, cap, h1, h2, h3⟩
theorem TrF.next {P : Nat → Prop} {w w' : World} {tp : Nat} {l : List (Int × Int)} (h : TrF P w tp l) (hb : Below w.heap.size w w') : TrF P w' tp l := by
  obtain ⟨A, cap, h1, h2, h3, h4⟩ := h.is
  exact ⟨Nat.lt_of_lt_of_le h.lt hb.size, h.far, A, cap, ((bcell hb).1 tp 0 h.lt).trans h1, h2, h3.next hb, h4⟩
theorem TrF.set {P : Nat → Prop} {w : World} {tp : Nat} {l : List (Int × Int)} (h : TrF P w tp l) {p : Addr} (hp : ¬ P p.block) (u : Value) : TrF P (w.setCell p u) tp l := by
  obtain ⟨A, cap, h1, h2, h3, h4⟩ := h.is
  have far : ∀ q : Addr, P q.block → (w.setCell p u).cell? q = w.cell? q := fun q hq => World.cell?_setCell_other w p q u (fun e => hp (by rw [e]; exact hq))
  refine ⟨by simpa using h.lt, h.far, A, cap, (far _ h.far).trans h1, h2, ⟨fun j x hj => ?_⟩, h4⟩
  obtain ⟨ad, e, hlt, c0, c1⟩ := h3.at_ j x hj
  have hq := h4 ad e (fun e => by rw [e] at hj; simp at hj)
  exact ⟨ad, e, by simpa using hlt, (far _ (by rw [block_of_add]; exact hq)).trans c0, (far _ (by rw [block_of_add]; exact hq)).trans c1⟩
theorem TrF.of {w0 w : World} {tp : Nat} {l : List (Int × Int)} {v : Value} (h : TN w0 tp l v w) : TrF (fun b => w0.heap.size ≤ b) w tp l := by
  obtain ⟨A, cap, rfl, hcap, C⟩ := Chs.of_own h.own
  refine ⟨h.lt, h.ge, A, cap, h.cell, hcap, C, fun ad e hl => ?_⟩
  subst e
  obtain ⟨g, cap', hv, hge, -⟩ := h.own.form (by cases l with | nil => exact absurd rfl hl | cons x l => simp)
  have hg := h.ge
  injection hv with e1 _ _
  injection e1 with e1
  subst e1
  show w0.heap.size ≤ g
  omega
theorem TrF.now {P : Nat → Prop} {w : World} {tp : Nat} {l : List (Int × Int)} (h : TrF P w tp l) : TrF (fun b => b < w.heap.size) w tp l := by
  obtain ⟨A, cap, h1, h2, h3, h4⟩ := h.is
  refine ⟨h.lt, h.lt, A, cap, h1, h2, h3, fun ad e hl => ?_⟩
  cases l with
  | nil => exact absurd rfl hl
  | cons x l =>
    obtain ⟨ad', e', hlt, -⟩ := h3.at_ 0 x rfl
    rw [e] at e'
    obtain rfl := Option.some.inj e'
    exact hlt
/-- a slice of changes that may be written -/
structure Wr (Q : Nat → Prop) (w : World) (A : Option Addr) (n : Nat) : Prop where
  at_ : 0 < n → ∃ g, A = some ⟨g, 0, none⟩ ∧ Q g ∧ g < w.heap.size ∧ (∀ j, j < n * 2 → ∃ u, w.cell? ⟨g, j, none⟩ = some u) ∧ ∀ j, w.frozen? ⟨g, j, none⟩ = false
theorem Wr.next {Q : Nat → Prop} {w w' : World} {A : Option Addr} {n : Nat} (h : Wr Q w A n) (hb : Below w.heap.size w w') : Wr Q w' A n :=
  ⟨fun hn => by
    obtain ⟨g, e, hq, hlt, h1, h2⟩ := h.at_ hn
    exact ⟨g, e, hq, Nat.lt_of_lt_of_le hlt hb.size, fun j hj => by obtain ⟨u, hu⟩ := h1 j hj; exact ⟨u, ((bcell hb).1 g j hlt).trans hu⟩, fun j => ((bcell hb).2 g j hlt).trans (h2 j)⟩⟩
theorem Wr.set {Q : Nat → Prop} {w : World} {A : Option Addr} {n : Nat} (h : Wr Q w A n) (p : Addr) (u : Value) : Wr Q (w.setCell p u) A n :=
  ⟨fun hn => by
    obtain ⟨g, e, hq, hlt, h1, h2⟩ := h.at_ hn
    refine ⟨g, e, hq, by simpa using hlt, fun j hj => ?_, fun j => by simpa using h2 j⟩
    obtain ⟨x, hx⟩ := h1 j hj
    exact cell?_setCell_some hx⟩
theorem Wr.of {w : World} {base e n : Nat} {v : Value} {l : List (Int × Int)} (h : w.ownsRow base e 2 v n (flat l)) : ∃ A cap, v = .slice A l.length cap ∧ Wr (fun g => base ≤ g) w A l.length := by
  have hn : l.length = n := by have := h.1; rw [flat_len] at this; omega
  have H := h
  obtain ⟨hl, ⟨rfl, hx⟩ | ⟨g, cap, cur, rfl, hg, hh, h1, h2, h3, h4⟩⟩ := h
  · exact ⟨none, 0, by rw [hn, hx], ⟨fun h0 => by omega⟩⟩
  · have hlt : g < w.heap.size := (Array.getElem?_eq_some_iff.1 hh).1
    refine ⟨_, cap, by rw [hn], ⟨fun h0 => ⟨g, rfl, hg, hlt, fun j hj => ?_, fun j => Lib.frozen_of_heap hh j⟩⟩⟩
    rw [Lib.cell_of_heap hh]
    exact ⟨_, Array.getElem?_eq_getElem (by rw [h3]; omega)⟩
theorem Wr.within {b : Nat} {w : World} {A : Option Addr} {n : Nat} (h : Wr (fun g => b ≤ g) w A n) {c : Nat} (hc : c ≤ b) : Wr (fun g => c ≤ g ∧ g < w.heap.size) w A n :=
  ⟨fun hn => by
    obtain ⟨g, e, hq, hlt, h1, h2⟩ := h.at_ hn
    exact ⟨g, e, ⟨Nat.le_trans hc hq, hlt⟩, hlt, h1, h2⟩⟩
set_option maxRecDepth 100000 in
set_option maxHeartbeats 4000000 in
theorem sensorCopies_w (l : List (Int × Int)) (hlm : (l.length : Int) ≤ 9223372036854775807) (A : Option Addr) (cap : Nat) (w : World) (hr : Ready w) (C : Chs w A l) : Calls Tryd.prog 7 #[.slice A l.length cap] w (Yes w) := by
  obtain ⟨i29, hi, hz0, hz1, hz2⟩ := info_parts info29
  have HC := Lib.hid C
  clear C
  by_cases h60 : l.length ≤ 60
  · have hl : l.length ≤ 1000 := by omega
    have hl3 : (l.length : Int) ≤ 60 := by omega
    have d60 : decide ((60 : Int) < (l.length : Int)) = false := by simp; omega
    cases hv : validL l
    · have HV := Lib.hid hv
      clear hv
      go_enter Tryd.func7, Tryd.ntmps7
      go_wp2_with fail
      refine (changes_c l hl A cap _ HC.out).mono ?_
      rintro e w1 ⟨A1, cap1, rfl, C1, hb1⟩
      go_wp2_with fail
      refine (rvalid_c l hl A1 cap1 _ C1).mono ?_
      rintro e w2 ⟨rfl, hb2⟩
      rw [HV.out]
      have k2 := bt hb1 hb2
      clear hb1 hb2 C1
      go_wp2_with fail
      refine (examples_c _ (hr.below k2)).mono ?_
      rintro e w6 ⟨rfl, hb6⟩
      have k3 := bt k2 hb6
      go_wp2_with fail
      go_ret
      exact ⟨rfl, k3⟩
    · have HV := Lib.hid hv
      clear hv
      go_enter Tryd.func7, Tryd.ntmps7
      go_wp2_with fail
      refine (changes_c l hl A cap _ HC.out).mono ?_
      rintro e w1 ⟨A1, cap1, rfl, C1, hb1⟩
      go_wp2_with fail
      refine (rvalid_c l hl A1 cap1 _ C1).mono ?_
      rintro e w2 ⟨rfl, hb2⟩
      rw [HV.out]
      have HK := Lib.hid (bt hb1 hb2)
      have HC2 := Lib.hid (HC.out.next HK.out)
      clear hb1 hb2 C1
      cases A with
      | none =>
        have e := HC.out.none_nil
        subst e
        have HE := Lib.hid (own_empty w2 29 2)
        have K5 := bt HK.out (ba w2 (.cells #[] 29))
        go_wp2_with fail
        have HK5 := Lib.hid K5
        clear HE K5
        generalize hWX : w2.alloc (.cells #[] 29) = WX at *
        generalize hA5 : (some (⟨w2.heap.size, 0, none⟩ : Addr)) = A5 at *
        clear hA5
        have C5 : Chs WX A5 [] := Chs.nil _
        have HR : Hid (Wr (fun g => w.heap.size ≤ g ∧ g < WX.heap.size) WX A5 ([] : List (Int × Int)).length) := Lib.hid ⟨fun h => absurd h (by simp)⟩
        clear hWX
        refine (new_o ([] : List (Int × Int)) hl A5 0 _ C5).mono ?_
        rintro e w4 ⟨h1, hb4⟩
        rw [if_pos HV.out] at h1
        obtain ⟨tp, v, rfl, TN4⟩ := h1
        have T := TrF.of TN4
        have R := HR.out.next hb4
        have K := bt HK5.out hb4
        clear hb4 TN4 HR HK5
        go_wp2_with fail
        go_loopw [35] (fun i wr => ∃ k : Nat, k ≤ ([] : List (Int × Int)).length ∧ i = .int .i64 k ∧ TrF (fun b => WX.heap.size ≤ b) wr tp ([] : List (Int × Int)) ∧ Wr (fun g => w.heap.size ≤ g ∧ g < WX.heap.size) wr A5 ([] : List (Int × Int)).length ∧ Below w.heap.size w wr) (fun i _ => ([] : List (Int × Int)).length - (intOf i).toNat)
        case atStart => exact ⟨0, by omega, rfl, T, R, K⟩
        case round =>
          obtain ⟨k, hk, rfl, T, R, K⟩ := hrel
          by_cases hlt : k < ([] : List (Int × Int)).length
          · exact absurd hlt (by simp)
          · obtain rfl : k = ([] : List (Int × Int)).length := by omega
            clear R
            obtain ⟨wo, rfl⟩ : ∃ wo : World, wo = wr := ⟨_, rfl⟩
            replace T := T.now
            have HT := Lib.hid T
            have HK6 := Lib.hid K
            have hwo : w.heap.size ≤ wo.heap.size := K.size
            clear T K
            go_wp2_with fail
            refine (tchanges_o ([] : List (Int × Int)) hl tp _ HT.out.trc).mono ?_
            rintro e w5 ⟨v5, rfl, ho5, hb5⟩
            obtain ⟨A6, cap6, rfl, R⟩ := Wr.of ho5
            have T := HT.out.next hb5
            have K := bt HK6.out hb5
            clear ho5 hb5 HT HK6
            go_wp2_with fail
            go_loopw [47] (fun i wr => ∃ k : Nat, k ≤ ([] : List (Int × Int)).length ∧ i = .int .i64 k ∧ TrF (fun b => b < wo.heap.size) wr tp ([] : List (Int × Int)) ∧ Wr (fun g => wo.heap.size ≤ g) wr A6 ([] : List (Int × Int)).length ∧ Below w.heap.size w wr) (fun i _ => ([] : List (Int × Int)).length - (intOf i).toNat)
            case atStart => exact ⟨0, by omega, rfl, T, R, K⟩
            case round =>
              obtain ⟨k, hk, rfl, T, R, K⟩ := hrel
              by_cases hlt : k < ([] : List (Int × Int)).length
              · exact absurd hlt (by simp)
              · obtain rfl : k = ([] : List (Int × Int)).length := by omega
                clear R
                have C7 := HC.out.next K
                obtain ⟨wo2, rfl⟩ : ∃ wo2 : World, wo2 = wr := ⟨_, rfl⟩
                go_wp2_with fail
                refine (tchanges_c ([] : List (Int × Int)) hl tp _ T.trc).mono ?_
                rintro e w6 ⟨A7, cap7, rfl, C8, hb6⟩
                replace K := bt K hb6
                replace C7 := C7.next hb6
                clear hb6 T
                go_wp2_with fail
                refine (changes_c ([] : List (Int × Int)) hl A7 cap7 _ C8).mono ?_
                rintro e w7 ⟨A8, cap8, rfl, C9, hb7⟩
                replace K := bt K hb7
                replace C7 := C7.next hb7
                clear hb7 C8
                go_wp2_with fail
                refine (changes_c ([] : List (Int × Int)) hl none cap _ C7).mono ?_
                rintro e w8 ⟨A9, cap9, rfl, C10, hb8⟩
                replace K := bt K hb8
                replace C9 := C9.next hb8
                clear hb8 C7
                go_wp2_with fail
                refine (same_c ([] : List (Int × Int)) hl A8 A9 cap8 cap9 _ C9 C10).mono ?_
                rintro e w9 ⟨rfl, hb9⟩
                replace K := bt K hb9
                clear hb9 C9 C10
                go_wp2_with fail
                refine (examples_c _ (hr.below K)).mono ?_
                rintro e w10 ⟨rfl, hb10⟩
                have k3 := bt K hb10
                go_wp2_with fail
                go_ret
                exact ⟨rfl, k3⟩
      | some ad =>
        have hnews := (HC2.out.next (ba w2 (.cells #[] 29))).cells
        have HN := Lib.hid hnews
        have HW := Lib.hid (own_empty w2 29 2)
        clear hnews
        go_wp2_with (at_builtin; refine wpList_append_own _ rfl (.tmp 19) (.tmp 20) 22 rfl w2.heap.size 29 i29 (.agg #[.int .i64 0, .int .i16 0]) 2 16 Tryd.underlying22 hi hz0 hz1 hz2 rfl (by decide) _ 0 [] rfl HW.out ad l.length cap (flat l) rfl (flat_len l) HN.out (flat_one l) (by unfold maxLen; omega) (by omega) (by simp) ?_; intro v1 WX hown1 hgrow1 hnil1)
        have ho : WX.ownsRow w2.heap.size 29 2 v1 l.length (flat l) := by simpa using hown1
        have k1 : Below w2.heap.size w2 WX := (ba w2 _).grown hgrow1 (by simp) (fun j hj => by have h2 : some w2.heap.size = some j := hj; injection h2 with h2; omega)
        have HK5 := Lib.hid (bt HK.out k1)
        clear hown1 hgrow1 hnil1 HN HW
        obtain ⟨A5, cap5, rfl, -, C5⟩ := Chs.of_own ho
        obtain ⟨A5', cap5', ev', R5⟩ := Wr.of ho
        injection ev' with ea1 _ ea2
        subst ea1 ea2
        have HR := Lib.hid (R5.within HK.out.size)
        clear ho k1 R5
        refine (new_o l hl A5 cap5 _ C5).mono ?_
        rintro e w4 ⟨h1, hb4⟩
        rw [if_pos HV.out] at h1
        obtain ⟨tp, v, rfl, TN4⟩ := h1
        have T := TrF.of TN4
        have R := HR.out.next hb4
        have K := bt HK5.out hb4
        clear hb4 TN4 HR HK5
        go_wp2_with fail
        go_loopw [35] (fun i wr => ∃ k : Nat, k ≤ l.length ∧ i = .int .i64 k ∧ TrF (fun b => WX.heap.size ≤ b) wr tp l ∧ Wr (fun g => w.heap.size ≤ g ∧ g < WX.heap.size) wr A5 l.length ∧ Below w.heap.size w wr) (fun i _ => l.length - (intOf i).toNat)
        case atStart => exact ⟨0, by omega, rfl, T, R, K⟩
        case round =>
          obtain ⟨k, hk, rfl, T, R, K⟩ := hrel
          by_cases hlt : k < l.length
          · obtain ⟨g, rfl, hq, hgl, hcs, hfr⟩ := R.at_ (by omega)
            obtain ⟨u0, c0⟩ := hcs (k * 2) (by omega)
            obtain ⟨u1, c1⟩ := hcs (k * 2 + 1) (by omega)
            have f0 := hfr (k * 2)
            have f1 := hfr (k * 2 + 1)
            have T2 := (T.set (p := ⟨g, k * 2, none⟩) (by have := hq; simp at *; omega) (.int .i64 (-1))).set (p := ⟨g, k * 2 + 1, none⟩) (by have := hq; simp at *; omega) (.int .i16 77)
            have R2 := (R.set ⟨g, k * 2, none⟩ (.int .i64 (-1))).set ⟨g, k * 2 + 1, none⟩ (.int .i16 77)
            have K2 := (K.setCell (p := ⟨g, k * 2, none⟩) (by have := hq; simp at *; omega) (.int .i64 (-1))).setCell (p := ⟨g, k * 2 + 1, none⟩) (by have := hq; simp at *; omega) (.int .i16 77)
            have HN := Lib.hid (And.intro T2 (And.intro R2 K2))
            have hk0 : (0 : Int) ≤ (k : Int) := by omega
            have hk1 : (k : Int) < (l.length : Int) := by omega
            clear T R K T2 R2 K2 hcs hfr hq
            go_wp2_with fail
            go_roundw
            case rel => exact ⟨k + 1, by omega, by go_num, HN.out.1, HN.out.2.1, HN.out.2.2⟩
            case measure => simp [intOf]; omega
          · obtain rfl : k = l.length := by omega
            clear R
            obtain ⟨wo, rfl⟩ : ∃ wo : World, wo = wr := ⟨_, rfl⟩
            replace T := T.now
            have HT := Lib.hid T
            have HK6 := Lib.hid K
            have hwo : w.heap.size ≤ wo.heap.size := K.size
            clear T K
            go_wp2_with fail
            refine (tchanges_o l hl tp _ HT.out.trc).mono ?_
            rintro e w5 ⟨v5, rfl, ho5, hb5⟩
            obtain ⟨A6, cap6, rfl, R⟩ := Wr.of ho5
            have T := HT.out.next hb5
            have K := bt HK6.out hb5
            clear ho5 hb5 HT HK6
            go_wp2_with fail
            go_loopw [47] (fun i wr => ∃ k : Nat, k ≤ l.length ∧ i = .int .i64 k ∧ TrF (fun b => b < wo.heap.size) wr tp l ∧ Wr (fun g => wo.heap.size ≤ g) wr A6 l.length ∧ Below w.heap.size w wr) (fun i _ => l.length - (intOf i).toNat)
            case atStart => exact ⟨0, by omega, rfl, T, R, K⟩
            case round =>
              obtain ⟨k, hk, rfl, T, R, K⟩ := hrel
              by_cases hlt : k < l.length
              · obtain ⟨g, rfl, hq, hgl, hcs, hfr⟩ := R.at_ (by omega)
                obtain ⟨u0, c0⟩ := hcs (k * 2) (by omega)
                obtain ⟨u1, c1⟩ := hcs (k * 2 + 1) (by omega)
                have f0 := hfr (k * 2)
                have f1 := hfr (k * 2 + 1)
                have T2 := (T.set (p := ⟨g, k * 2, none⟩) (by have := hq; simp at *; omega) (.int .i64 (-1))).set (p := ⟨g, k * 2 + 1, none⟩) (by have := hq; simp at *; omega) (.int .i16 78)
                have R2 := (R.set ⟨g, k * 2, none⟩ (.int .i64 (-1))).set ⟨g, k * 2 + 1, none⟩ (.int .i16 78)
                have K2 := (K.setCell (p := ⟨g, k * 2, none⟩) (by have := hq; simp at *; omega) (.int .i64 (-1))).setCell (p := ⟨g, k * 2 + 1, none⟩) (by have := hq; simp at *; omega) (.int .i16 78)
                have HN := Lib.hid (And.intro T2 (And.intro R2 K2))
                have hk0 : (0 : Int) ≤ (k : Int) := by omega
                have hk1 : (k : Int) < (l.length : Int) := by omega
                clear T R K T2 R2 K2 hcs hfr hq
                go_wp2_with fail
                go_roundw
                case rel => exact ⟨k + 1, by omega, by go_num, HN.out.1, HN.out.2.1, HN.out.2.2⟩
                case measure => simp [intOf]; omega
              · obtain rfl : k = l.length := by omega
                clear R
                have C7 := HC.out.next K
                obtain ⟨wo2, rfl⟩ : ∃ wo2 : World, wo2 = wr := ⟨_, rfl⟩
                go_wp2_with fail
                refine (tchanges_c l hl tp _ T.trc).mono ?_
                rintro e w6 ⟨A7, cap7, rfl, C8, hb6⟩
                replace K := bt K hb6
                replace C7 := C7.next hb6
                clear hb6 T
                go_wp2_with fail
                refine (changes_c l hl A7 cap7 _ C8).mono ?_
                rintro e w7 ⟨A8, cap8, rfl, C9, hb7⟩
                replace K := bt K hb7
                replace C7 := C7.next hb7
                clear hb7 C8
                go_wp2_with fail
                refine (changes_c l hl (some ad) cap _ C7).mono ?_
                rintro e w8 ⟨A9, cap9, rfl, C10, hb8⟩
                replace K := bt K hb8
                replace C9 := C9.next hb8
                clear hb8 C7
                go_wp2_with fail
                refine (same_c l hl A8 A9 cap8 cap9 _ C9 C10).mono ?_
                rintro e w9 ⟨rfl, hb9⟩
                replace K := bt K hb9
                clear hb9 C9 C10
                go_wp2_with fail
                refine (examples_c _ (hr.below K)).mono ?_
                rintro e w10 ⟨rfl, hb10⟩
                have k3 := bt K hb10
                go_wp2_with fail
                go_ret
                exact ⟨rfl, k3⟩
  · have d60 : decide ((60 : Int) < (l.length : Int)) = true := by simp; omega
    clear h60
    go_enter Tryd.func7, Tryd.ntmps7
    go_wp2_with fail
    refine (examples_c _ hr).mono ?_
    rintro e w6 ⟨rfl, hb6⟩
    go_wp2_with fail
    go_ret
    exact ⟨rfl, hb6⟩
end Go.Proofs.YtgdaekjodhebfaaDoor
