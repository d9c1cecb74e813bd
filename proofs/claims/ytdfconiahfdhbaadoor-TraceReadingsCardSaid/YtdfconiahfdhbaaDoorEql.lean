/-
  Slices of events compared: slices.Equal, trace's Equal and the reference's.
-/
import Derived.Test.YtdfconiahfdhbaaDoorEvs
import Derived.BigRegion
namespace Go.Proofs.YtdfconiahfdhbaaDoor
open Go.RowKit
attribute [local go_sem ↓] Go.wp_at_zero Go.wp_at_succ

noncomputable def eqL (l m : List Ev) : Bool := @decide (l = m) (Classical.propDecidable _)
theorem eqL_yes {l m : List Ev} (h : l = m) : eqL l m = true := by unfold eqL; exact @decide_eq_true _ (Classical.propDecidable _) h
theorem eqL_no {l m : List Ev} (h : l ≠ m) : eqL l m = false := by unfold eqL; exact @decide_eq_false _ (Classical.propDecidable _) h
theorem ne_ev {a b : Ev} (h : a ≠ b) : ¬ a.kind = b.kind ∨ (a.kind = b.kind ∧ ¬ a.time = b.time) ∨ (a.kind = b.kind ∧ a.time = b.time ∧ ¬ a.task = b.task) ∨ (a.kind = b.kind ∧ a.time = b.time ∧ a.task = b.task ∧ ¬ a.n = b.n) ∨ (a.kind = b.kind ∧ a.time = b.time ∧ a.task = b.task ∧ a.n = b.n ∧ ¬ a.value = b.value) ∨ (a.kind = b.kind ∧ a.time = b.time ∧ a.task = b.task ∧ a.n = b.n ∧ a.value = b.value ∧ ¬ a.port = b.port) := by
  obtain ⟨a1, a2, a3, a4, a5, a6⟩ := a
  obtain ⟨b1, b2, b3, b4, b5, b6⟩ := b
  simp only [ne_eq, Ev.mk.injEq] at h
  simp only
  by_cases h1 : a1 = b1 <;> by_cases h2 : a2 = b2 <;> by_cases h3 : a3 = b3 <;> by_cases h4 : a4 = b4 <;> by_cases h5 : a5 = b5 <;> by_cases h6 : a6 = b6 <;> simp_all
set_option maxRecDepth 100000 in
set_option maxHeartbeats 2000000 in
theorem sequal_c (l m : List Ev) (hl : l.length ≤ 1000000) (hm : m.length ≤ 1000000) (A B : Option Addr) (ca cb : Nat) (w : World) (hA : Evs w A l) (hB : Evs w B m) : Calls Tryd.prog 43 #[.slice A l.length ca, .slice B m.length cb] w fun e w' => e = .returned (.bool (eqL l m)) ∧ Below w.heap.size w w' := by
  have HA := Lib.hid hA
  have HB := Lib.hid hB
  have h1 : (l.length : Int) ≤ 1000000 := by omega
  have h2 : (m.length : Int) ≤ 1000000 := by omega
  clear hA hB
  by_cases hlen : l.length = m.length
  · have hlI : (l.length : Int) = (m.length : Int) := by omega
    have HL := Lib.hid hlen
    rw [hlen]
    clear hlen hlI hl h1
    go_enter Tryd.func43, Tryd.ntmps43
    go_wp2_with fail
    go_loopw [13] (fun i wr => ∃ j : Nat, j ≤ m.length ∧ i = .int .i64 j ∧ l.take j = m.take j ∧ Below w.heap.size w wr) (fun i _ => m.length - (intOf i).toNat)
    case atStart => exact ⟨0, by omega, rfl, rfl, Below.refl _ _⟩
    case round =>
      obtain ⟨j, hj, rfl, htk, hb⟩ := hrel
      have HTK := Lib.hid htk
      have HBL := Lib.hid hb
      clear htk
      by_cases hlt : j < m.length
      · have hlt2 : j < l.length := by rw [HL.out]; exact hlt
        obtain ⟨ad, rfl, EA⟩ := (HA.out.next hb).at_ j _ (List.getElem?_eq_getElem hlt2)
        obtain ⟨bd, rfl, EB⟩ := (HB.out.next hb).at_ j _ (List.getElem?_eq_getElem hlt)
        have HT1 := Lib.hid (List.take_succ_eq_append_getElem hlt2)
        have HT2 := Lib.hid (List.take_succ_eq_append_getElem hlt)
        have HNE := Lib.hid (show l[j] ≠ m[j] → eqL l m = false from fun h => eqL_no fun e => h (by subst e; rfl))
        generalize l[j] = a at *
        generalize m[j] = b at *
        clear hlt2 hb
        obtain ⟨_, a0, a1, a2, a3, a4, a5⟩ := EA
        obtain ⟨_, b0, b1, b2, b3, b4, b5⟩ := EB
        by_cases hq : a = b
        · subst hq
          go_wp2_with fail
          go_quiet (fail)
          go_wp2_with fail
          go_roundw
          case rel => exact ⟨j + 1, by omega, by go_num, by rw [HT1.out, HT2.out, HTK.out], bdn HBL.out _⟩
          case measure => simp [intOf]; omega
        · have HN := Lib.hid (HNE.out hq)
          rcases ne_ev hq with h | ⟨h, h'⟩ | ⟨h, h1', h'⟩ | ⟨h, h1', h2', h'⟩ | ⟨h, h1', h2', h3', h'⟩ | ⟨h, h1', h2', h3', h4', h'⟩
          all_goals
            clear hq
            go_wp2_with fail
            go_quiet (fail)
            go_wp2_with fail
            go_ret
            exact ⟨ret_bool HN.out.symm, bdn HBL.out _⟩
      · obtain rfl : j = m.length := by omega
        have HE := Lib.hid (show eqL l m = true from eqL_yes (by
          have h := HTK.out
          rwa [List.take_length, ← HL.out, List.take_length] at h))
        go_wp2_with fail
        go_ret
        exact ⟨ret_bool HE.out.symm, HBL.out⟩
  · have hlI : ¬ (l.length : Int) = (m.length : Int) := by omega
    have HN := Lib.hid (show eqL l m = false from eqL_no fun e => hlen (by rw [e]))
    go_enter Tryd.func43, Tryd.ntmps43
    go_wp2_with fail
    go_ret
    exact ⟨ret_bool HN.out.symm, Below.refl _ _⟩
theorem equal_c (l m : List Ev) (hl : l.length ≤ 1000000) (hm : m.length ≤ 1000000) (A B : Option Addr) (ca cb : Nat) (w : World) (hA : Evs w A l) (hB : Evs w B m) : Calls Tryd.prog 24 #[.slice A l.length ca, .slice B m.length cb] w fun e w' => e = .returned (.bool (eqL l m)) ∧ Below w.heap.size w w' := by
  have HC := Lib.hid (sequal_c l m hl hm A B ca cb w hA hB)
  go_enter Tryd.func24, Tryd.ntmps24
  go_wp2_with fail
  refine HC.out.mono ?_
  rintro e w1 ⟨rfl, hb⟩
  go_wp2_with fail
  go_ret
  exact ⟨rfl, hb⟩
set_option maxRecDepth 100000 in
set_option maxHeartbeats 2000000 in
theorem requal_c (l m : List Ev) (hl : l.length ≤ 1000000) (hm : m.length ≤ 1000000) (A B : Option Addr) (ca cb : Nat) (w : World) (hA : Evs w A l) (hB : Evs w B m) : Calls Tryd.prog 17 #[.slice A l.length ca, .slice B m.length cb] w fun e w' => e = .returned (.bool (eqL l m)) ∧ Below w.heap.size w w' := by
  have HA := Lib.hid hA
  have HB := Lib.hid hB
  have h1 : (l.length : Int) ≤ 1000000 := by omega
  have h2 : (m.length : Int) ≤ 1000000 := by omega
  clear hA hB
  by_cases hlen : l.length = m.length
  · have hlI : (l.length : Int) = (m.length : Int) := by omega
    have HL := Lib.hid hlen
    rw [hlen]
    clear hlen hlI hl h1
    go_enter Tryd.func17, Tryd.ntmps17
    go_wp2_with fail
    go_loopw [13] (fun i wr => ∃ j : Nat, j ≤ m.length ∧ i = .int .i64 j ∧ l.take j = m.take j ∧ Below w.heap.size w wr) (fun i _ => m.length - (intOf i).toNat)
    case atStart => exact ⟨0, by omega, rfl, rfl, Below.refl _ _⟩
    case round =>
      obtain ⟨j, hj, rfl, htk, hb⟩ := hrel
      have HTK := Lib.hid htk
      have HBL := Lib.hid hb
      clear htk
      by_cases hlt : j < m.length
      · have hlt2 : j < l.length := by rw [HL.out]; exact hlt
        obtain ⟨ad, rfl, EA⟩ := (HA.out.next hb).at_ j _ (List.getElem?_eq_getElem hlt2)
        obtain ⟨bd, rfl, EB⟩ := (HB.out.next hb).at_ j _ (List.getElem?_eq_getElem hlt)
        have HT1 := Lib.hid (List.take_succ_eq_append_getElem hlt2)
        have HT2 := Lib.hid (List.take_succ_eq_append_getElem hlt)
        have HNE := Lib.hid (show l[j] ≠ m[j] → eqL l m = false from fun h => eqL_no fun e => h (by subst e; rfl))
        generalize l[j] = a at *
        generalize m[j] = b at *
        clear hlt2 hb
        obtain ⟨_, a0, a1, a2, a3, a4, a5⟩ := EA
        obtain ⟨_, b0, b1, b2, b3, b4, b5⟩ := EB
        by_cases hq : a = b
        · subst hq
          go_wp2_with fail
          go_quiet (fail)
          go_wp2_with fail
          go_roundw
          case rel => exact ⟨j + 1, by omega, by go_num, by rw [HT1.out, HT2.out, HTK.out], bdn HBL.out _⟩
          case measure => simp [intOf]; omega
        · have HN := Lib.hid (HNE.out hq)
          rcases ne_ev hq with h | ⟨h, h'⟩ | ⟨h, h1', h'⟩ | ⟨h, h1', h2', h'⟩ | ⟨h, h1', h2', h3', h'⟩ | ⟨h, h1', h2', h3', h4', h'⟩
          all_goals
            clear hq
            go_wp2_with fail
            go_quiet (fail)
            go_wp2_with fail
            go_ret
            exact ⟨ret_bool HN.out.symm, bdn HBL.out _⟩
      · obtain rfl : j = m.length := by omega
        have HE := Lib.hid (show eqL l m = true from eqL_yes (by
          have h := HTK.out
          rwa [List.take_length, ← HL.out, List.take_length] at h))
        go_wp2_with fail
        go_ret
        exact ⟨ret_bool HE.out.symm, HBL.out⟩
  · have hlI : ¬ (l.length : Int) = (m.length : Int) := by omega
    have HN := Lib.hid (show eqL l m = false from eqL_no fun e => hlen (by rw [e]))
    go_enter Tryd.func17, Tryd.ntmps17
    go_wp2_with fail
    go_ret
    exact ⟨ret_bool HN.out.symm, Below.refl _ _⟩
end Go.Proofs.YtdfconiahfdhbaaDoor
