/-
  Merge: the values of several traces.
-/
import Derived.Test.YtgdaekjodhebfaaDoorNew
namespace Go.Proofs.YtgdaekjodhebfaaDoor
open Go.RowKit

/-- traces in a slice of pointers -/
structure Trs (w : World) (A : Option Addr) (ts : List (List (Int × Int))) : Prop where
  at_ : ∀ j l, ts[j]? = some l → ∃ b tp, A = some ⟨b, 0, none⟩ ∧ b < w.heap.size ∧ w.cell? ⟨b, j, none⟩ = some (.pointer (some ⟨tp, 0, none⟩)) ∧ Trc w tp l
theorem Trs.next {w w1 : World} {A : Option Addr} {ts : List (List (Int × Int))} (h : Trs w A ts) (hb : Below w.heap.size w w1) : Trs w1 A ts :=
  ⟨fun j l hj => by
    obtain ⟨b, tp, e, hlt, hc, T⟩ := h.at_ j l hj
    exact ⟨b, tp, e, Nat.lt_of_lt_of_le hlt hb.size, ((bcell hb).1 b j hlt).trans hc, T.next hb⟩⟩
/-- a slice that reads as a list of values -/
structure Vls (w : World) (A : Option Addr) (zs : List Int) : Prop where
  at_ : ∀ j x, zs[j]? = some x → ∃ b, A = some ⟨b, 0, none⟩ ∧ b < w.heap.size ∧ w.cell? ⟨b, j, none⟩ = some (.int .i16 x)
theorem Vls.next {w w1 : World} {A : Option Addr} {zs : List Int} (h : Vls w A zs) (hb : Below w.heap.size w w1) : Vls w1 A zs :=
  ⟨fun j l hj => by
    obtain ⟨b, e, hlt, hc⟩ := h.at_ j l hj
    exact ⟨b, e, Nat.lt_of_lt_of_le hlt hb.size, ((bcell hb).1 b j hlt).trans hc⟩⟩
theorem Vls.of_own {w : World} {base e n : Nat} {v : Value} {l : List Int} (h : w.ownsRow base e 1 v n (l.map (.int .i16))) : ∃ A cap, v = .slice A l.length cap ∧ Vls w A l := by
  have hn : l.length = n := by have := h.1; rw [List.length_map] at this; omega
  have H := h
  obtain ⟨hl, ⟨rfl, hx⟩ | ⟨g, cap, cur, rfl, hg, hh, h1, h2, h3, h4⟩⟩ := h
  · have hn0 : l = [] := List.eq_nil_of_length_eq_zero (hn.trans hx)
    subst hn0
    exact ⟨none, 0, rfl, ⟨fun j x hj => by simp at hj⟩⟩
  · have hlt : g < w.heap.size := (Array.getElem?_eq_some_iff.1 hh).1
    refine ⟨_, cap, by rw [hn], ⟨fun j x hj => ⟨g, rfl, hlt, ?_⟩⟩⟩
    have hc := H.cells (g := g) rfl j (.int .i16 x) (by rw [List.getElem?_map, hj]; rfl)
    have hadd : (⟨g, 0, none⟩ : Addr).add j = ⟨g, j, none⟩ := by unfold Addr.add; split <;> simp_all
    rwa [hadd] at hc
theorem info27 : (Tryd.prog.info? 27).map (fun i => (i.zero, i.size, i.bytes)) = some (some (.int .i16 0), 1, 2) := by kernel_rfl
/-- what Merge answers -/
def MergeP (zs : List Int) (w : World) (e : Ending) (w' : World) : Prop := ∃ A cap, e = .returned (.slice A zs.length cap) ∧ Vls w' A zs ∧ Below w.heap.size w w'
theorem news_val (w : World) (v : Int) (e : TypeId) : ∀ (j : Nat) u, [Value.int .i16 v][j]? = some u → (w.alloc (.cells #[.int .i16 v] e)).cell? ((⟨w.heap.size, 0, none⟩ : Addr).add j) = some u := by
  intro j u hu
  match j with
  | 0 => simp at hu; subst hu; exact (World.cell?_alloc_at _ _ _ _ rfl).trans rfl
  | j + 1 => simp at hu
set_option maxRecDepth 100000 in
set_option maxHeartbeats 1000000 in
theorem merge_c (ts : List (List (Int × Int))) (hts : ts.length ≤ 1000) (hv : ∀ l ∈ ts, l.length ≤ 1000 ∧ validL l = true) (t : Int) (A : Option Addr) (cap : Nat) (w : World) (T : Trs w A ts) : Calls Tryd.prog 17 #[.slice A ts.length cap, .int .i64 t] w (MergeP (ts.map fun l => atL l t) w) := by
  obtain ⟨i27, hi, hz0, hz1, hz2⟩ := info_parts info27
  have HC := Lib.hid T
  have HV := Lib.hid hv
  have hl3 : (ts.length : Int) ≤ 1000 := by omega
  clear T hv
  go_enter Tryd.func17, Tryd.ntmps17
  go_wp2_with fail
  go_loopw [5, 10] (fun v i wr => ∃ k : Nat, k ≤ ts.length ∧ i = .int .i64 k ∧ Below w.heap.size w wr ∧ wr.ownsRow w.heap.size 27 1 v k (((ts.take k).map fun l => atL l t).map (.int .i16))) (fun _ i _ => ts.length - (intOf i).toNat)
  case atStart => exact ⟨0, by omega, rfl, Below.refl _ _, World.ownsRow_nil _ _ _ _⟩
  case round =>
    obtain ⟨k, hk, rfl, hbr, hown⟩ := hrel
    have HB := Lib.hid hbr
    have hsz := hbr.size
    by_cases hlt : k < ts.length
    · obtain ⟨ad, tp, rfl, had, c0, T⟩ := (HC.out.next hbr).at_ k _ (List.getElem?_eq_getElem hlt)
      have HVK := Lib.hid (HV.out ts[k] (List.getElem_mem hlt))
      have HT := Lib.hid (show (((ts.take (k + 1)).map fun l => atL l t).map (Value.int .i16)) = (((ts.take k).map fun l => atL l t).map (Value.int .i16)) ++ [.int .i16 (atL ts[k] t)] from by rw [List.take_succ_eq_append_getElem hlt, List.map_append, List.map_append]; rfl)
      generalize ts[k] = x at *
      clear hbr
      go_wp2_with fail
      refine (at_c x HVK.out.1 HVK.out.2 t tp _ T).mono ?_
      rintro e w1 ⟨rfl, hb1⟩
      replace hown := owns_below hown hb1
      have hbr1 := Lib.hid (bt HB.out hb1)
      have hsz1 := hbr1.out.size
      have HN := Lib.hid (news_val w1 (atL x t) 27)
      generalize atL x t = z at *
      go_wp2_with (at_builtin; refine wpList_append_own _ rfl (.tmp 14) (.tmp 18) 40 rfl w.heap.size 27 i27 (.int .i16 0) 1 2 Tryd.underlying40 hi hz0 hz1 hz2 rfl (by decide) _ _ _ rfl (hown.alloc _) ⟨w1.heap.size, 0, none⟩ 1 1 [.int .i16 z] rfl rfl HN.out (by intro u hu; simp at hu; subst hu; rfl) (by unfold maxLen; omega) (by omega) (by simp; omega) ?_; intro v1 w7 hown1 hgrow1 hnil1)
      go_roundw
      case rel =>
        refine ⟨k + 1, by omega, by go_num, ?_, by rw [HT.out]; exact hown1⟩
        exact (hbr1.out.alloc (by omega) _).grown hgrow1 (by simp; omega) (fun j hj => (hown.lt j hj).1)
      case measure => simp [intOf]; omega
    · obtain rfl : k = ts.length := by omega
      rw [List.take_length] at hown
      go_wp2_with fail
      go_ret
      obtain ⟨A', cap', rfl, C'⟩ := Vls.of_own hown
      exact ⟨A', cap', by rw [List.length_map]; rfl, C', hbr⟩
end Go.Proofs.YtgdaekjodhebfaaDoor
