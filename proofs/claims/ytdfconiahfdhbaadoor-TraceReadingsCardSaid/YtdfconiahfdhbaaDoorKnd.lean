/-
  The table 'kinds' of package trace: what it holds, and that the walks find it.
-/
import Derived.Test.YtdfconiahfdhbaaDoorBase
import Derived.Test.YtdfconiahfdhbaaDoorAid
import Derived.Test.YtdfconiahfdhbaaDoorRows
import Derived.OpenShut
import Derived.ChangeSlices
import Derived.Lib.LaidTab
import Derived.LaidMore
import Derived.ProofKit
import Derived.KernelRfl
namespace Go.Proofs.YtdfconiahfdhbaaDoor
open Go.RowKit Go.ChangeShapes Go.WideShapes

theorem block_of_add (a : Addr) (n : Nat) : (a.add n).block = a.block := by unfold Addr.add; split <;> rfl
/-- words and fields of the kinds -/
def kindsL : List (List UInt8 × List Int) := [([], []), ([98, 111, 111, 116], [2]), ([102, 97, 105, 108], [2]), ([115, 116, 97, 114, 116], [0, 4]), ([114, 101, 97, 100], [0, 1, 4]), ([99, 111, 109, 109, 105, 116], [0, 3]), ([101, 110, 100], [0]), ([111, 117, 116, 112, 117, 116], [1, 2, 4]), ([114, 101, 99, 101, 105, 118, 101], [2, 4]), ([101, 120, 112, 105, 114, 101], [0, 4]), ([117, 112, 100, 97, 116, 101], [2]), ([100, 114, 111, 112], [0, 1, 4, 2]), ([115, 101, 110, 100], [0, 1, 4, 2])]
def kindW (k : Nat) : List UInt8 := (kindsL.getD k ([], [])).1
def kindF (k : Nat) : List Int := (kindsL.getD k ([], [])).2
/-- what the table holds in memory -/
structure KTab (w : World) : Prop where
  at_ : ∀ k, k < 13 → w.cell? ⟨0, k * 2, none⟩ = some (.string ⟨(kindW k).toArray⟩) ∧ ∃ A cap, w.cell? ⟨0, k * 2 + 1, none⟩ = some (.slice A (kindF k).length cap) ∧ ∀ j z, (kindF k)[j]? = some z → ∃ ad, A = some ad ∧ ad.block < w.heap.size ∧ w.cell? (ad.add j) = some (.int .i64 z)
  row : ∃ cs t fr, w.heap[0]? = some (.cells cs t fr) ∧ cs.size = 26
theorem KTab.next {w w' : World} (h : KTab w) (hb : Below w.heap.size w w') : KTab w' :=
  ⟨fun k hk => by
    obtain ⟨h0, A, cap, h1, h2⟩ := h.at_ k hk
    have hlt := World.block_lt_of_cell? _ _ h0
    exact ⟨((bcell hb).1 0 (k * 2) hlt).trans h0, A, cap, ((bcell hb).1 0 (k * 2 + 1) hlt).trans h1, fun j z hj => by
      obtain ⟨ad, e, hl, hc⟩ := h2 j z hj
      exact ⟨ad, e, Nat.lt_of_lt_of_le hl hb.size, (hb.cell (by rw [block_of_add]; exact hl)).trans hc⟩⟩, by
    obtain ⟨cs, t, fr, h0, h1⟩ := h.row
    exact ⟨cs, t, fr, (hb.block 0 (Array.getElem?_eq_some_iff.1 h0).1).trans h0, h1⟩⟩
theorem lits_inj {k : IntKind} : ∀ {l m : List Int}, (lits k l : List (DataW Unit)) = lits k m → l = m
  | [], [], _ => rfl
  | [], y :: m, h => by cases h
  | x :: l, [], h => by cases h
  | x :: l, y :: m, h => by
    have h1 := (List.cons.inj h).1
    have h2 := lits_inj (k := k) (l := l) (m := m) (List.cons.inj h).2
    simp only [DataW.lit.injEq, Lit.int.injEq, true_and] at h1
    rw [h1, h2]
/-- the datum of one kind -/
def kindD (x : List UInt8 × List Int) : DataW Unit := .agg [.lit (.string x.1), if x.2 = [] then .nil else .slice (lits .i64 x.2) []]
theorem kindsData : (Rows.laid_trickle_trace_kinds : DataW Unit) = .agg (kindsL.map kindD) := by kernel_rfl
theorem gKinds : Tryd.prog.globalNamed "trickle/trace.kinds" = some 0 := by kernel_rfl
theorem gKindsType : (Tryd.prog.globals[0]?).map (·.type) = some 57 := by kernel_rfl
theorem cells56 : Tryd.prog.cellsOf 56 = 2 := by kernel_rfl
theorem cells58 : Tryd.prog.cellsOf 58 = 1 := by kernel_rfl
theorem cells9 : Tryd.prog.cellsOf 9 = 1 := by kernel_rfl
theorem cells55 : Tryd.prog.cellsOf 55 = 1 := by kernel_rfl
set_option maxRecDepth 100000 in
theorem ktab_of {W : World} {r : List (String × DataW Unit)} (h : laidMet Tryd.prog (("trickle/trace.kinds", Rows.laid_trickle_trace_kinds) :: r) W) : KTab W := by
  rw [kindsData] at h
  obtain ⟨ps, ⟨g', t', cs, fuel, p, q, hg', ht', hvar, hd, _, _⟩, _⟩ := h
  obtain rfl := Option.some.inj (gKinds.symm.trans hg')
  obtain rfl := Option.some.inj (gKindsType.symm.trans ht')
  obtain ⟨xs, m, _, hx, hcl, hxl, hel⟩ := DataW.trod_array Tryd.underlying57 hd
  have hxs : xs.map (·.1) = kindsL.map kindD := by
    have := congrArg Prod.fst hx
    simp only [DataW.agg.injEq] at this
    exact this.symm
  have hrow : ∃ cs' t fr, W.heap[0]? = some (.cells cs' t fr) ∧ cs'.size = 26 := by
    have hc57 : Tryd.prog.cellsOf 57 = 26 := by kernel_rfl
    rw [hc57] at hcl
    simp only [World.var?, gKinds, Option.bind_some] at hvar
    split at hvar
    next a b c e =>
      obtain rfl := Option.some.inj hvar
      exact ⟨_, _, _, e, by simpa using hcl⟩
    all_goals simp at hvar
  refine ⟨fun k hk => ?_, hrow⟩
  have hkl : k < kindsL.length := hk
  have h1 := hel k hk
  rw [cells56] at h1
  have hxk : xs[k]? = some (xs[k]'(by omega)) := List.getElem?_eq_getElem (by omega)
  rw [hxk] at h1
  have hdk : (xs[k]'(by omega)).1 = kindD (kindsL[k]) := by
    have := congrArg (·[k]?) hxs
    simp only [List.getElem?_map, hxk, List.getElem?_eq_getElem hkl, Option.map_some, Option.some.injEq] at this
    exact this
  generalize xs[k]'(by omega) = y at *
  obtain ⟨y1, y2⟩ := y
  simp only at hdk
  subst hdk
  have hkw : kindW k = (kindsL[k]).1 := by unfold kindW; rw [List.getD_eq_getElem?_getD, List.getElem?_eq_getElem hkl]; rfl
  have hkf : kindF k = (kindsL[k]).2 := by unfold kindF; rw [List.getD_eq_getElem?_getD, List.getElem?_eq_getElem hkl]; rfl
  rw [hkw, hkf]
  generalize kindsL[k] = kd at *
  obtain ⟨ys, n', _, hy, hlen, hyl, hfd⟩ := DataW.trod_struct Tryd.underlying56 h1
  have hc57 : Tryd.prog.cellsOf 57 = 26 := by kernel_rfl
  rw [hc57] at hcl
  have e0 : cs.toList[k * 2]? = some (cs.toList[k * 2]'(by omega)) := List.getElem?_eq_getElem (by omega)
  have e1 : cs.toList[k * 2 + 1]? = some (cs.toList[k * 2 + 1]'(by omega)) := List.getElem?_eq_getElem (by omega)
  have ed : (cs.toList.drop (k * 2)).take 2 = [cs.toList[k * 2]'(by omega), cs.toList[k * 2 + 1]'(by omega)] := by
    rw [List.drop_eq_getElem_cons (by omega), List.drop_eq_getElem_cons (i := k * 2 + 1) (by omega)]
    rfl
  rw [ed] at hfd
  generalize cs.toList[k * 2]'(by omega) = c0 at *
  generalize cs.toList[k * 2 + 1]'(by omega) = c1 at *
  have f0 := hfd 0 _ rfl
  have f1 := hfd 1 _ rfl
  match ys, hyl with
  | [u0, u1], _ =>
    simp only [Prod.mk.injEq] at hy
    have hu := hy.1
    unfold kindD at hu
    simp only [List.map_cons, List.map_nil, DataW.agg.injEq, List.cons.injEq, and_true] at hu
    obtain ⟨hu0, hu1⟩ := hu
    have g0 : DataW.trod (fun _ => ()) Tryd.prog W 0 (fun _ => true) false n' 9 [c0] = some u0 := by simpa [cells9] using f0
    have g1 : DataW.trod (fun _ => ()) Tryd.prog W 0 (fun _ => true) false n' 55 [c1] = some u1 := by simpa [cells55] using f1
    obtain ⟨s, hs, hus, _⟩ := DataW.trod_string Tryd.underlying9 g0
    simp only [List.cons.injEq, and_true] at hs
    subst hs
    have hsd : s.data.toList = kd.1 := by
      rw [hus] at hu0
      simp only [DataW.lit.injEq, Lit.string.injEq] at hu0
      exact hu0.symm
    have q0 : W.cell? ⟨0, k * 2, none⟩ = some (.string ⟨kd.1.toArray⟩) := by
      rw [World.var?_cell gKinds hvar, ← Array.getElem?_toList, e0, ← hsd]
    have q1 : W.cell? ⟨0, k * 2 + 1, none⟩ = some c1 := by
      rw [World.var?_cell gKinds hvar, ← Array.getElem?_toList, e1]
    refine ⟨q0, ?_⟩
    rcases open_ints Tryd.underlying55 Tryd.underlying58 cells58 g1 with ⟨hc, hx⟩ | ⟨a, len, cap, zs, hc, _, hlc, _, hzl, hx, hat, _⟩
    · simp only [List.cons.injEq, and_true] at hc
      subst hc
      have hnil : kd.2 = [] := by
        rw [hx] at hu1
        by_cases hk2 : kd.2 = []
        · exact hk2
        · rw [if_neg hk2] at hu1
          cases hu1
      exact ⟨none, 0, by rw [q1, hnil]; rfl, fun j z hj => by rw [hnil] at hj; cases hj⟩
    · simp only [List.cons.injEq, and_true] at hc
      subst hc
      have hzs : kd.2 = zs.take len := by
        rw [hx] at hu1
        by_cases hk2 : kd.2 = []
        · rw [if_pos hk2] at hu1
          cases hu1
        · rw [if_neg hk2] at hu1
          simp only [DataW.slice.injEq] at hu1
          exact lits_inj hu1.1
      have hzc : zs.length = cap := by simpa using hzl
      have hlen2 : kd.2.length = len := by rw [hzs, List.length_take]; omega
      refine ⟨some a, cap, by rw [q1, hlen2], fun j z hj => ⟨a, rfl, ?_, ?_⟩⟩
      · have h0 : 0 < zs.length := by
          have := (List.getElem?_eq_some_iff.1 hj).1
          omega
        have := World.block_lt_of_cell? _ _ (hat 0 h0)
        rwa [block_of_add] at this
      · have hjl : j < kd.2.length := (List.getElem?_eq_some_iff.1 hj).1
        rw [hat j (by omega)]
        have : zs.getD j 0 = z := by
          rw [hzs, List.getElem?_take_of_lt (by omega)] at hj
          rw [List.getD_eq_getElem?_getD, hj]
          rfl
        rw [this]
end Go.Proofs.YtdfconiahfdhbaaDoor
