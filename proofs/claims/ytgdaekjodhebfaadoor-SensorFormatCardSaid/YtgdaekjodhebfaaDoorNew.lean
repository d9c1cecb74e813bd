/-
  follows and New: the trace of a list of changes.
-/
import Derived.Test.YtgdaekjodhebfaaDoorCln
import Derived.Deep.AppendLies
namespace Go.Proofs.YtgdaekjodhebfaaDoor
open Go.RowKit

def folB (l : List (Int × Int)) (t : Int) : Bool := decide (lastT (-1) l < t ∧ t ≤ 1099511627776)
set_option maxRecDepth 100000 in
set_option maxHeartbeats 1000000 in
theorem follows_c (l : List (Int × Int)) (hl : l.length ≤ 1000) (hv : validL l = true) (tx vx : Int) (tp : Nat) (w : World) (T : Trc w tp l) : Calls Tryd.prog 28 #[.pointer (some ⟨tp, 0, none⟩), .agg #[.int .i64 tx, .int .i16 vx]] w fun e w' => e = .returned (.bool (folB l tx)) ∧ Below w.heap.size w w' := by
  have hl3 : (l.length : Int) ≤ 1000 := by omega
  have hge : -1 ≤ lastT (-1) l := lastT_ge l (-1) hv
  have hlast : (l.length = 0 ∧ lastT (-1) l = -1) ∨ (0 < l.length ∧ ∃ h : l.length - 1 < l.length, lastT (-1) l = l[l.length - 1].1) := by
    by_cases h : l.length = 0
    · have : l = [] := List.eq_nil_of_length_eq_zero h
      subst this; exact .inl ⟨rfl, rfl⟩
    · have h1 : l.length - 1 < l.length := by omega
      refine .inr ⟨by omega, h1, ?_⟩
      have h2 := lastT_take h1 (-1)
      rwa [show l.length - 1 + 1 = l.length from by omega, List.take_length] at h2
  obtain ⟨A, cap, hc, -, C⟩ := (T.next (ba w (.cells #[.int .i64 tx, .int .i16 vx] 29))).is
  have HC := Lib.hid C
  clear T hv C
  by_cases h0 : 0 ≤ tx
  · have d0 : decide (0 ≤ tx) = true := by simpa using h0
    by_cases h1 : tx ≤ 1099511627776
    · have d1 : decide (tx ≤ 1099511627776) = true := by simpa using h1
      rcases hlast with ⟨hn, e⟩ | ⟨hn, h, e⟩
      · have HF := Lib.hid (show folB l tx = true from by unfold folB; rw [e]; simp; omega)
        have dn : ((l.length : Int) == 0) = true := by rw [hn]; rfl
        clear e hn h0 h1 hge
        go_enter Tryd.func28, Tryd.ntmps28
        go_wp2_with fail
        go_quiet (fail)
        go_wp2_with fail
        go_ret
        exact ⟨ret_bool HF.out.symm, bdn (ba w _) _⟩
      · have dn : ((l.length : Int) == 0) = false := by rw [beq_eq_false_iff_ne]; omega
        obtain ⟨ad, rfl, had, c0, -⟩ := HC.out.at_ (l.length - 1) _ (List.getElem?_eq_getElem h)
        have d3 : (1 : Int) ≤ (l.length : Int) := by omega
        have d4 : (0 : Int) ≤ (l.length : Int) - 1 := by omega
        have d5 : (l.length : Int) - 1 < (l.length : Int) := by omega
        have hw1 : IntKind.i64.wrap ((l.length : Int) - 1) = (l.length : Int) - 1 := IntWalk.i64_in _ (by omega)
        generalize l[l.length - 1] = y at *
        obtain ⟨ty, vy⟩ := y
        by_cases h2 : ty < tx
        · have d2 : decide (ty < tx) = true := by simpa using h2
          have HF := Lib.hid (show folB l tx = true from by unfold folB; rw [e]; simp; omega)
          clear e hn h0 h1 h2 hge
          go_enter Tryd.func28, Tryd.ntmps28
          go_wp2_with fail
          go_quiet (fail)
          go_wp2_with fail
          go_ret
          exact ⟨ret_bool HF.out.symm, bdn (ba w _) _⟩
        · have d2 : decide (ty < tx) = false := by simpa using h2
          have HF := Lib.hid (show folB l tx = false from by unfold folB; rw [e]; simp; omega)
          clear e hn h0 h1 h2 hge
          go_enter Tryd.func28, Tryd.ntmps28
          go_wp2_with fail
          go_quiet (fail)
          go_wp2_with fail
          go_ret
          exact ⟨ret_bool HF.out.symm, bdn (ba w _) _⟩
    · have d1 : decide (tx ≤ 1099511627776) = false := by simpa using h1
      have HF := Lib.hid (show folB l tx = false from by unfold folB; simp; omega)
      clear hlast h0 h1 hge
      go_enter Tryd.func28, Tryd.ntmps28
      go_wp2_with fail
      go_quiet (fail)
      go_wp2_with fail
      go_ret
      exact ⟨ret_bool HF.out.symm, bdn (ba w _) _⟩
  · have d0 : decide (0 ≤ tx) = false := by simpa using h0
    have HF := Lib.hid (show folB l tx = false from by unfold folB; simp; omega)
    clear hlast h0 hge
    go_enter Tryd.func28, Tryd.ntmps28
    go_wp2_with fail
    go_quiet (fail)
    go_wp2_with fail
    go_ret
    exact ⟨ret_bool HF.out.symm, bdn (ba w _) _⟩
/-- a trace in the making: its row is of the call's own -/
structure TN (w0 : World) (tp : Nat) (l : List (Int × Int)) (v : Value) (w : World) : Prop where
  below : Below w0.heap.size w0 w
  ge : w0.heap.size ≤ tp
  lt : tp < w.heap.size
  cell : w.cell? ⟨tp, 0, none⟩ = some v
  froz : w.frozen? ⟨tp, 0, none⟩ = false
  own : w.ownsRow (tp + 1) 29 2 v l.length (flat l)
theorem owns_below {base : Nat} {e : TypeId} {size : Nat} {v : Value} {n : Nat} {xs : List Value} {w w1 : World} (h : w.ownsRow base e size v n xs) (hb : Below w.heap.size w w1) : w1.ownsRow base e size v n xs := by
  obtain ⟨hl, h | ⟨g, cap, cur, hv, hg, hh, h1, h2, h3, h4⟩⟩ := h
  · exact ⟨hl, .inl h⟩
  · have hlt : g < w.heap.size := (Array.getElem?_eq_some_iff.1 hh).1
    exact ⟨hl, .inr ⟨g, cap, cur, hv, hg, (hb.block g hlt).trans hh, h1, h2, h3, h4⟩⟩
theorem TN.next {w0 w w1 : World} {tp : Nat} {l : List (Int × Int)} {v : Value} (h : TN w0 tp l v w) (hb : Below w.heap.size w w1) : TN w0 tp l v w1 :=
  ⟨bt h.below hb, h.ge, Nat.lt_of_lt_of_le h.lt hb.size, ((bcell hb).1 tp 0 h.lt).trans h.cell, ((bcell hb).2 tp 0 h.lt).trans h.froz, owns_below h.own hb⟩
theorem TN.trc {w0 w : World} {tp : Nat} {l : List (Int × Int)} {v : Value} (h : TN w0 tp l v w) : Trc w tp l := by
  obtain ⟨A, cap, rfl, hcap, C⟩ := Chs.of_own h.own
  exact ⟨h.lt, A, cap, h.cell, hcap, C⟩
theorem owns_set {base : Nat} {e : TypeId} {size : Nat} {v : Value} {n : Nat} {xs : List Value} {w : World} (h : w.ownsRow base e size v n xs) {p : Addr} (hp : p.block < base) (u : Value) : (w.setCell p u).ownsRow base e size v n xs := by
  obtain ⟨hl, h | ⟨g, cap, cur, hv, hg, hh, h1, h2, h3, h4⟩⟩ := h
  · exact ⟨hl, .inl h⟩
  · exact ⟨hl, .inr ⟨g, cap, cur, hv, hg, (Below.heap_setCell w p u g (by omega)).trans hh, h1, h2, h3, h4⟩⟩
theorem TN.grow {w0 w1 w2 : World} {tp : Nat} {l l2 : List (Int × Int)} {v nv : Value} {o : Obj} (h : TN w0 tp l v w1) (hg : (w1.alloc o).drew.grownBy w2 v.ownBlock) (hown : w2.ownsRow (tp + 1) 29 2 nv l2.length (flat l2)) : TN w0 tp l2 nv (w2.setCell ⟨tp, 0, none⟩ nv) := by
  have hne : v.ownBlock ≠ some tp := fun e => by have := (h.own.lt _ e).1; omega
  have a0 := ((bcell (ba w1 o)).1 tp 0 h.lt).trans h.cell
  have a1 := ((bcell (ba w1 o)).2 tp 0 h.lt).trans h.froz
  have s0 := (hg.cell_far ⟨tp, 0, none⟩ (by have := h.lt; simp; omega) (Ne.symm hne)).trans a0
  have s1 := (hg.frozen_far ⟨tp, 0, none⟩ (by have := h.lt; simp; omega) (Ne.symm hne)).trans a1
  have hsz := h.below.size
  have hlt2 : tp < w2.heap.size := Nat.lt_of_lt_of_le h.lt (Nat.le_trans (by simp) hg.size)
  have k1 : Below w0.heap.size w0 w2 := (bt (h.below.alloc hsz o) (w1.alloc o).drewB).grown hg (by simp; omega) (fun j hj => by have := (h.own.lt j hj).1; have := h.ge; omega)
  have k2 := k1.setCell (p := ⟨tp, 0, none⟩) h.ge nv
  exact ⟨k2, h.ge, by simpa using hlt2, World.cell?_setCell_same _ _ _ s0, by simpa using s1, owns_set hown (by simp) _⟩
/-- what New answers, and what the trace owns -/
def NewO (l : List (Int × Int)) (w : World) (e : Ending) (w' : World) : Prop := (if validL l = true then ∃ tp v, e = .returned (.tuple #[.pointer (some ⟨tp, 0, none⟩), .int .i64 0]) ∧ TN w tp l v w' else e = .returned (.tuple #[.pointer none, .int .i64 1])) ∧ Below w.heap.size w w'
set_option maxRecDepth 100000 in
set_option maxHeartbeats 2000000 in
theorem new_o (l : List (Int × Int)) (hl : l.length ≤ 1000) (A : Option Addr) (cap : Nat) (w : World) (C : Chs w A l) : Calls Tryd.prog 21 #[.slice A l.length cap] w (NewO l w) := by
  obtain ⟨i29, hi, hz0, hz1, hz2⟩ := info_parts info29
  have HC := Lib.hid C
  have hl3 : (l.length : Int) ≤ 1000 := by omega
  clear C
  go_enter Tryd.func21, Tryd.ntmps21
  go_wp2_with fail
  have T0 : TN w w.heap.size [] (.slice none 0 0) (w.alloc (.cells #[.slice none 0 0] 60)) := ⟨ba w _, Nat.le_refl _, by simp, (World.cell?_alloc_at _ _ _ _ rfl).trans rfl, World.frozen?_alloc_at _ _ _ _ rfl, World.ownsRow_nil _ _ _ _⟩
  go_loopw [11] (fun i wr => ∃ (k : Nat) (v : Value), k ≤ l.length ∧ i = .int .i64 k ∧ TN w w.heap.size (l.take k) v wr ∧ validL (l.take k) = true) (fun i _ => l.length - (intOf i).toNat)
  case atStart => exact ⟨0, _, by omega, rfl, T0, rfl⟩
  case round =>
    obtain ⟨k, v, hk, rfl, T, hv⟩ := hrel
    have HT := Lib.hid T
    have HV := Lib.hid hv
    have hbr := T.below
    have hsz := hbr.size
    have HB := Lib.hid hbr
    clear T hv T0
    by_cases hlt : k < l.length
    · obtain ⟨ad, rfl, had, c0, c1⟩ := (HC.out.next hbr).at_ k _ (List.getElem?_eq_getElem hlt)
      rw [← add_of_add, add_one] at c1
      have HVT := Lib.hid (validL_take hlt)
      have hFT : flat (l.take (k + 1)) = flat (l.take k) ++ [.int .i64 l[k].1, .int .i16 l[k].2] := by rw [List.take_succ_eq_append_getElem hlt, flat_append]; rfl
      have HFT := Lib.hid hFT
      generalize l[k] = x at *
      obtain ⟨tx, vx⟩ := x
      clear hbr hFT
      have hltk : (l.take k).length = k := by rw [List.length_take]; omega
      have hltk2 : (l.take (k + 1)).length = k + 1 := by rw [List.length_take]; omega
      have HK := Lib.hid hltk
      have HK2 := Lib.hid hltk2
      clear hltk hltk2
      go_wp2_with fail
      have T1 := HT.out.next (ba wr (.cells #[.int .i64 tx, .int .i16 vx] 29))
      have HN := Lib.hid (new_change wr tx vx 29)
      refine (follows_c (l.take k) (by rw [HK.out]; omega) HV.out tx vx w.heap.size _ T1.trc).mono ?_
      rintro e w1 ⟨rfl, hb1⟩
      replace T1 := T1.next hb1
      have n0 := ((bcell hb1).1 wr.heap.size 0 (by simp)).trans HN.out.1
      have n1 := ((bcell hb1).1 wr.heap.size 1 (by simp)).trans HN.out.2
      have hcb : wr.heap.size < w1.heap.size := Nat.lt_of_lt_of_le (by simp) hb1.size
      by_cases hf : folB (l.take k) tx = true
      · have HV2 := Lib.hid (show validL (l.take (k + 1)) = true from by rw [HVT.out, HV.out]; exact hf)
        rw [hf]
        clear hf
        go_wp2_with fail
        have HT1 := Lib.hid T1
        have hown := T1.own
        have t0 := T1.cell
        have t1 := T1.froz
        have hge := T1.ge
        have htl := T1.lt
        have hne : v.ownBlock ≠ some w.heap.size := fun e => by have := (hown.lt _ e).1; omega
        have hne2 : v.ownBlock ≠ some wr.heap.size := fun e => by have := (HT.out.own.lt _ e).2; omega
        have a0 := ((bcell (ba w1 (.cells #[.int .i64 tx, .int .i16 vx] 29))).1 w.heap.size 0 htl).trans t0
        have a1 := ((bcell (ba w1 (.cells #[.int .i64 tx, .int .i16 vx] 29))).2 w.heap.size 0 htl).trans t1
        have a2 := ((bcell (ba w1 (.cells #[.int .i64 tx, .int .i16 vx] 29))).1 wr.heap.size 0 hcb).trans n0
        have a3 := ((bcell (ba w1 (.cells #[.int .i64 tx, .int .i16 vx] 29))).1 wr.heap.size 1 hcb).trans n1
        clear T1
        go_region_law ((refine step_append_lies _ (by rfl) _ _ _ (by rfl) (w.heap.size + 1) 29 i29 _ 2 16 Tryd.underlying22 hi hz0 hz1 hz2 rfl (by omega) v (l.take k).length (flat (l.take k)) (by rfl) ((hown.alloc _).drew) ⟨w1.heap.size, 0, none⟩ 1 1 [.int .i64 tx, .int .i16 vx] (by rfl) (by rfl) (World.news_of_block (cs := #[.int .i64 tx, .int .i16 vx]) (t := 29) (fr := (0, 0)) (heap_alloc_new w1 _)) (by simp [Value.oneCell']) (by omega) (by rw [HK.out]; unfold maxLen; omega) (by rw [HK.out]; omega) (by simp; omega) (w1.heap.size + 1) (by simp) ?_; intro gg cap2 w2 hown1 hgrow hat hlt2; have s0 := (hgrow.cell_far _ (by simp; omega) (Ne.symm hne)).trans a0; have s1 := (hgrow.frozen_far _ (by simp; omega) (Ne.symm hne)).trans a1))
        all_goals
          have T2 : TN w w.heap.size (l.take (k + 1)) _ _ := HT1.out.grow hgrow (nv := .slice (some ⟨gg, 0, none⟩) (k + 1) cap2) (by rw [HFT.out, HK2.out]; rw [HK.out] at hown1; exact hown1)
          go_wp2_with fail
          go_roundw
          case rel => exact ⟨k + 1, _, hlt, rfl, T2, HV2.out⟩
          case measure => simp [intOf]; omega
      · have hf' : folB (l.take k) tx = false := by simpa using hf
        have HV2 := Lib.hid (show ¬ validL l = true from by
          have := validL_false (k := k + 1) (l := l) (by rw [HVT.out, HV.out]; simpa [folB] using hf')
          rw [this]; decide)
        rw [hf']
        clear hf hf'
        go_wp2_with fail
        go_ret2
        exact ⟨by rw [if_neg HV2.out]; rfl, T1.below⟩
    · obtain rfl : k = l.length := by omega
      have HV2 := Lib.hid (show validL l = true from by have := HV.out; rwa [List.take_length] at this)
      go_wp2_with fail
      go_ret2
      refine ⟨by rw [if_pos HV2.out]; exact ⟨_, v, rfl, by have := HT.out; rwa [List.take_length] at this⟩, HB.out⟩
/-- what New answers -/
def NewP (l : List (Int × Int)) (w : World) (e : Ending) (w' : World) : Prop := (if validL l = true then ∃ tp, e = .returned (.tuple #[.pointer (some ⟨tp, 0, none⟩), .int .i64 0]) ∧ w.heap.size ≤ tp ∧ Trc w' tp l else e = .returned (.tuple #[.pointer none, .int .i64 1])) ∧ Below w.heap.size w w'
theorem new_c (l : List (Int × Int)) (hl : l.length ≤ 1000) (A : Option Addr) (cap : Nat) (w : World) (C : Chs w A l) : Calls Tryd.prog 21 #[.slice A l.length cap] w (NewP l w) := by
  refine (new_o l hl A cap w C).mono fun e w' ⟨h, hb⟩ => ⟨?_, hb⟩
  by_cases hv : validL l = true
  · rw [if_pos hv] at h ⊢
    obtain ⟨tp, v, he, T⟩ := h
    exact ⟨tp, he, T.ge, T.trc⟩
  · rw [if_neg hv] at h ⊢
    exact h
end Go.Proofs.YtgdaekjodhebfaaDoor
