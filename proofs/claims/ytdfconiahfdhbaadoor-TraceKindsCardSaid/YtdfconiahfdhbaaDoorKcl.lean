/-
  The closure that TraceKinds hands to Kind.
-/
import Derived.Test.YtdfconiahfdhbaaDoorKst
import Derived.BigRegion
import Derived.Maps.AppendAt
namespace Go.Proofs.YtdfconiahfdhbaaDoor
open Go.RowKit
attribute [local go_sem ↓] Go.wp_at_zero Go.wp_at_succ

set_option maxRecDepth 100000 in
set_option maxHeartbeats 2000000 in
theorem kcl_c (w0 : World) (BO BE BG BL BK base : Nat) (a : KA w0 BO BE BG BL BK base) (A : Option Addr) (cap : Nat) (l : List Ev) (hl : l.length ≤ 80) (k c : Int) (hc : 0 ≤ c ∧ c ≤ 255) (v : Value) (g : List Nat) (hg : g.length ≤ 80) (w : World) (K : KS w0 BO BE BG BL BK base A cap l k c true v g w) (i : Nat) (e : Ev) (hi : l[i]? = some e) : Calls Tryd.prog 19 #[.int .i64 (i : Int), .agg #[.int .i64 e.kind, .int .i64 e.time, .int .i64 e.task, .int .i64 e.n, .int .i16 e.value, .int .i64 e.port], .pointer (some ⟨BO, 0, none⟩), .pointer (some ⟨BE, 0, none⟩), .pointer (some ⟨BG, 0, none⟩), .pointer (some ⟨BL, 0, none⟩)] w fun r w' => r = .returned (.bool (decide ((g.length : Int) + 1 ≤ c))) ∧ ∃ v', KS w0 BO BE BG BL BK base A cap l k c true v' (g ++ [i]) w' := by
  obtain ⟨i3, hti, hz0, hz1, hz2⟩ := info_parts info3
  have hil : i < l.length := (List.getElem?_eq_some_iff.1 hi).1
  have hiI : (i : Int) < (l.length : Int) := by omega
  have hi0 : (0 : Int) ≤ (i : Int) := by omega
  have hlI : (l.length : Int) ≤ 80 := by omega
  obtain ⟨ad, rfl, EA⟩ := (K.evs.next K.below).at_ i e hi
  have HK := Lib.hid (((K.setOk a true).next a (ba _ (.cells #[.int .i64 e.kind, .int .i64 e.time, .int .i64 e.task, .int .i64 e.n, .int .i16 e.value, .int .i64 e.port] 26))).next a (World.drewB _))
  have hsz := K.sz
  have hb1 := a.bo
  have hb2 := a.be
  have hb3 := a.bg
  have hb4 := a.bl
  have hB1 : BO < w.heap.size := by omega
  have hB2 : BE < w.heap.size := by omega
  have hB3 : BG < w.heap.size := by omega
  have hB4 : BL < w.heap.size := by omega
  obtain ⟨_, _, _, k0, k1, k2, k3, k4, k5, _, _⟩ := K
  obtain ⟨al, a0, a1, a2, a3, a4, a5⟩ := EA
  clear hi hil
  go_enter Tryd.func19, Tryd.ntmps19
  go_wp2_with fail
  go_region
  clear k0 k1 k2 k3 k4 k5 a0 a1 a2 a3 a4 a5 al
  generalize ((w.setCell ⟨BO, 0, none⟩ (.bool true)).alloc (.cells #[.int .i64 e.kind, .int .i64 e.time, .int .i64 e.task, .int .i64 e.n, .int .i16 e.value, .int .i64 e.port] 26)).drew = W at *
  have hown := HK.out.own
  have hs := HK.out.sz
  have HK2 := Lib.hid (HK.out.next a (ba W (.cells #[.int .i64 (i : Int)] 3)))
  have kg := HK.out.got
  have kl := HK.out.lim
  have hne : v.ownBlock ≠ some BG := fun h => by have := (hown.lt _ h).1; omega
  have hneL : v.ownBlock ≠ some BL := fun h => by have := (hown.lt _ h).1; omega
  have hgl := a.gl
  have hc0 := hc.1
  have hc1 := hc.2
  have g0 := HK2.out.got
  have g1 := HK2.out.fg
  have g2 := HK2.out.lim
  go_wp2_with (at_builtin; refine wpList_append_own _ rfl _ _ 36 rfl base 3 i3 _ 1 8 Tryd.underlying36 hti hz0 hz1 hz2 rfl (by decide) _ g.length (idxV g) rfl (hown.alloc _) ⟨W.heap.size, 0, none⟩ 1 1 [.int .i64 (i : Int)] rfl rfl (cell_one_new _ _ _) (by intro u hu; simp at hu; subst hu; rfl) (by unfold maxLen; omega) (by omega) (by simp; omega) ?_; intro v' w5 hown1 hgrow _; obtain ⟨gg, cap2, rfl⟩ := ownsRow_succ hown1; have s0 := (hgrow.cell_far ⟨BG, 0, none⟩ (by simp; omega) (Ne.symm hne)).trans g0; have s1 := (hgrow.frozen_far ⟨BG, 0, none⟩ (by simp; omega) (Ne.symm hne)).trans g1; have s2 := (hgrow.cell_far ⟨BL, 0, none⟩ (by simp; omega) (Ne.symm hneL)).trans g2)
  have hcw : IntKind.i64.wrap c = c := IntWalk.i64_in _ (by omega)
  go_ret
  exact ⟨ret_bool (by simp), _, HK2.out.grow a hgrow (g' := g ++ [i]) (by simpa [idxV] using hown1)⟩
end Go.Proofs.YtdfconiahfdhbaaDoor
