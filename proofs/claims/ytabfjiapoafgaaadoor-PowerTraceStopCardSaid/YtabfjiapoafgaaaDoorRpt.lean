/-
  slices.Repeat of one period.
-/
import Derived.Test.YtabfjiapoafgaaaDoorAdv
import Derived.Test.YtabfjiapoafgaaaDoorShelfB
import Derived.Laws.CopyRow
import Derived.Laws.CopyOwn
import Derived.Lib.SlBuf
namespace Go.Proofs.YtabfjiapoafgaaaDoor
open Go.RowKit
set_option linter.unusedVariables false
attribute [local go_sem ↓] Go.wp_at_zero Go.wp_at_succ

theorem run_copy_row_sz {P : Program} (w : World) (dT sT ty elem : TypeId) (sz g o dLen dCap : Nat) (a : Addr) (sLen sCap : Nat) (cur : Array Value) (t : TypeId) (cs : List Value)
    (hu : P.underlying dT = some (.slice elem)) (hs : (P.info? elem).map (·.size) = some sz)
    (hg : w.heap[g]? = some (.cells cur t (0, 0))) (hn : cs.length = Nat.min sLen dLen * sz)
    (hsrc : ∀ j v, cs[j]? = some v → w.cell? (a.add j) = some v) (hfit : o + cs.length ≤ cur.size) (h1 : ∀ v ∈ cs, v.oneCell' = true) :
    (Builtin.copy_ #[dT, sT] ty #[.slice (some ⟨g, o, none⟩) dLen dCap, .slice (some a) sLen sCap]).run P w =
      .ok (goInt (Nat.min sLen dLen)) (w.setRow g (cur.toList.take o ++ cs ++ cur.toList.drop (o + cs.length)).toArray) := by
  have hl := run_loadCells_list (P := P) w a cs hsrc
  have hst := run_storeCells_at P g o t cs 0 cur w hg (by simpa using hfit) h1
  cases hq : P.info? elem with
  | none => simp [hq] at hs
  | some i =>
    have hi : i.size = sz := by simpa [hq] using hs
    simp [Builtin.copy_, run_underlying hu, Builtin.lenOf, Builtin.firstCells, sizeOf, typeInfo, hq, hi, ← hn, hl, hst]
theorem step_copy_run {P : Program} {ops : Array Oper} {o : Oper} {a : Act} {w : World} {K : Act → World → Prop} {Q : Exit → Act → World → Prop} {E : Prop} (hgd : o.guard = none) (d s : Operand) (t t' : TypeId)
    (ho : o.op = .call { callee := .builtin .copy, args := #[d, s], argTypes := #[t, t'] }) (v u : Value) (hd : a.eval d = v) (hs : a.eval s = u) {v' : Value} {w' : World}
    (hr : (Builtin.copy_ #[t, t'] o.type #[v, u]).run P w = .ok v' w') (h : K (a.put o.dst v') w') :
    if Region.wanted o (yielded ops a.tmps) = true then Oper.wp P o a w K Q else E := by
  have hw : Region.wanted o (yielded ops a.tmps) = true := by simp [Region.wanted, hgd]
  rw [if_pos hw]
  exact Lib.wp_copy_run w d s t t' ho v u hd hs hr h
theorem madeCells_two (v : Value) (n : Nat) : (madeCells #[v, v] n).toList = List.replicate n v := by
  apply List.ext_getElem?
  intro i
  unfold madeCells
  by_cases hi : i < n
  · have h2 : i % 2 = 0 ∨ i % 2 = 1 := by omega
    rcases h2 with h2 | h2 <;> simp [hi, h2]
  · simp [hi]
theorem flat_rep (x : Int) (n : Nat) : flat (List.replicate n (x, x)) = List.replicate (n * 2) (.int .i64 x) := by
  induction n with
  | zero => rfl
  | succ n ih => rw [List.replicate_succ, flat_cons, ih, show (n + 1) * 2 = n * 2 + 1 + 1 from by omega, List.replicate_succ, List.replicate_succ]
theorem flat_take (l : List (Int × Int)) (k : Nat) : (flat l).take (k * 2) = flat (l.take k) := by
  induction l generalizing k with
  | nil => simp [flat_nil]
  | cons x l ih =>
    cases k with
    | zero => simp [flat_nil]
    | succ k => rw [flat_cons, show (k + 1) * 2 = k * 2 + 1 + 1 from by omega, List.take_succ_cons, List.take_succ_cons, List.take_succ_cons, flat_cons, ih]
theorem flat_drop (l : List (Int × Int)) (k : Nat) : (flat l).drop (k * 2) = flat (l.drop k) := by
  induction l generalizing k with
  | nil => simp [flat_nil]
  | cons x l ih =>
    cases k with
    | zero => simp
    | succ k => rw [flat_cons, show (k + 1) * 2 = k * 2 + 1 + 1 from by omega, List.drop_succ_cons, List.drop_succ_cons, List.drop_succ_cons, ih]
/-- the first f of n are there -/
def rowR (o : Int) (f n : Nat) : List (Int × Int) := List.replicate f (0, o) ++ List.replicate (n - f) (0, 0)
theorem rowR_len (o : Int) {f n : Nat} (h : f ≤ n) : (rowR o f n).length = n := by unfold rowR; simp; omega
theorem rowR_more (o : Int) {f c n : Nat} (h : f + c ≤ n) : (flat (rowR o f n)).take (f * 2) ++ flat (List.replicate c (0, o)) ++ (flat (rowR o f n)).drop (f * 2 + (flat (List.replicate c (0, o))).length) = flat (rowR o (f + c) n) := by
  rw [flat_len, List.length_replicate, ← Nat.add_mul, flat_take, flat_drop, ← flat_append, ← flat_append]
  congr 1
  have e1 : (rowR o f n).take f = List.replicate f (0, o) := by unfold rowR; rw [List.take_append_of_le_length (by simp), List.take_of_length_le (by simp)]
  have e2 : (rowR o f n).drop (f + c) = List.replicate (n - (f + c)) (0, 0) := by
    unfold rowR
    rw [List.drop_append, List.drop_eq_nil_of_le (by simp), List.nil_append, List.length_replicate, List.drop_replicate]
    congr 1
    omega
  rw [e1, e2]
  unfold rowR
  rw [List.replicate_append_replicate]
/-- the row in memory -/
structure RX (w0 : World) (o : Int) (f n : Nat) (W : World) : Prop where
  below : Below w0.heap.size w0 W
  h : W.heap[w0.heap.size]? = some (.cells (flat (rowR o f n)).toArray 38 (0, 0))
theorem RX.lt {w0 W : World} {o : Int} {f n : Nat} (h : RX w0 o f n W) : w0.heap.size < W.heap.size := (Array.getElem?_eq_some_iff.1 h.h).1
theorem RX.put {w0 W : World} {o : Int} {f c n : Nat} (h : RX w0 o f n W) (hc : f + c ≤ n) : RX w0 o (f + c) n (W.setRow w0.heap.size ((flat (rowR o f n)).toArray.toList.take (f * 2) ++ flat (List.replicate c (0, o)) ++ (flat (rowR o f n)).toArray.toList.drop (f * 2 + (flat (List.replicate c (0, o))).length)).toArray) := by
  refine ⟨below_setRow h.below (Nat.le_refl _) _, ?_⟩
  rw [setRow_heap W _ _ _ _ _ h.h, List.toList_toArray, rowR_more o hc]
theorem RX.drew {w0 W : World} {o : Int} {f n : Nat} (h : RX w0 o f n W) : RX w0 o f n W.drew := ⟨h.below.drew, h.h⟩
theorem RX.src {w0 W : World} {o : Int} {f c n : Nat} (h : RX w0 o f n W) (hc : c ≤ f) (hf : f ≤ n) : ∀ j v, (flat (List.replicate c (0, o)))[j]? = some v → W.cell? ((⟨w0.heap.size, 0, none⟩ : Addr).add j) = some v := by
  intro j v hj
  have ha : (⟨w0.heap.size, 0, none⟩ : Addr).add j = ⟨w0.heap.size, j, none⟩ := by unfold Addr.add; split <;> simp_all
  rw [ha, cell_of_row W _ j _ _ _ h.h, List.getElem?_toArray]
  have e : flat (rowR o f n) = flat (List.replicate c (0, o)) ++ flat (List.replicate (f - c) (0, o) ++ List.replicate (n - f) (0, 0)) := by
    rw [← flat_append, ← List.append_assoc, List.replicate_append_replicate, show c + (f - c) = f from by omega]
    rfl
  rw [e, List.getElem?_append_left (List.getElem?_eq_some_iff.1 hj).1]
  exact hj
theorem RX.ox {w0 W : World} {o : Int} {n : Nat} (h : RX w0 o n n W) (hn : n ≤ 1000) : OX w0.heap.size (List.replicate n (0, o)) W := by
  have e : rowR o n n = List.replicate n (0, o) := by unfold rowR; simp
  have hh := h.h
  rw [e] at hh
  unfold OX
  rw [List.length_replicate]
  refine ⟨by rw [flat_len, List.length_replicate], .inr ⟨w0.heap.size, n, _, rfl, Nat.le_refl _, hh, Nat.le_refl _, by unfold maxLen; omega, by rw [List.size_toArray, flat_len, List.length_replicate], ?_⟩⟩
  rw [List.toList_toArray]
  exact List.take_of_length_le (by rw [flat_len, List.length_replicate]; exact Nat.le_refl _)
theorem RX.make {w0 W : World} (o : Int) {n : Nat} (h : W.ownsRow w0.heap.size 38 2 (.slice (some ⟨w0.heap.size, 0, none⟩) n n) n (madeCells (Value.agg #[.int .i64 0, .int .i64 0]).cells (n * 2)).toList) (hg : w0.grownBy W none) : RX w0 o 0 n W := by
  refine ⟨(Below.refl _ w0).grown hg (Nat.le_refl _) (fun j e => by cases e), ?_⟩
  obtain ⟨hl, ⟨h1, _⟩ | ⟨g, cap, cur, hv, hge, hh, h1, h2, h3, h4⟩⟩ := h
  · simp at h1
  · simp only [Value.slice.injEq, Option.some.injEq, Addr.mk.injEq, and_true, true_and] at hv
    obtain ⟨rfl, rfl⟩ := hv
    rw [hh]
    have e1 : cur.toList = flat (rowR o 0 n) := by
      rw [List.take_of_length_le (by rw [Array.length_toList, h3]; exact Nat.le_refl _)] at h4
      rw [h4]
      show (madeCells #[.int .i64 0, .int .i64 0] (n * 2)).toList = _
      rw [madeCells_two, ← flat_rep]
      rfl
    rw [← e1, Array.toArray_toList]
theorem size38 : (Tryd.prog.info? 38).map (·.size) = some 2 := by
  obtain ⟨i, h1, _, h2, _⟩ := info_parts info38
  rw [h1, Option.map_some, h2]
theorem RX.copy1 {w0 W : World} {o : Int} {n S cap c : Nat} (h : RX w0 o 0 n W) (hS : Prs W (some ⟨S, 0, none⟩) [(0, o)]) (hc : Nat.min 1 n = c) : ∃ W', (Builtin.copy_ #[22, 22] 3 #[.slice (some ⟨w0.heap.size, 0, none⟩) n n, .slice (some ⟨S, 0, none⟩) 1 cap]).run Tryd.prog W = .ok (.int .i64 c) W' ∧ RX w0 o c n W' := by
  have hcn : c ≤ n := by rw [← hc]; exact Nat.min_le_right _ _
  have hc1 : c ≤ 1 := by rw [← hc]; exact Nat.min_le_left _ _
  have hr := run_copy_row_sz (P := Tryd.prog) W 22 22 3 38 2 w0.heap.size 0 n n ⟨S, 0, none⟩ 1 cap _ 38 (flat (List.replicate c (0, o))) Tryd.underlying22 size38 h.h (by rw [flat_len, List.length_replicate, hc]) (fun j v hj => by
    have hl := (List.getElem?_eq_some_iff.1 hj).1
    rw [flat_len, List.length_replicate] at hl
    obtain rfl : c = 1 := by omega
    exact hS.cells j v hj) (by rw [List.size_toArray, flat_len, flat_len, List.length_replicate, rowR_len o (Nat.zero_le n)]; omega) (flat_one _)
  rw [hc] at hr
  have hp := h.put (c := c) (by omega)
  rw [Nat.zero_add, Nat.zero_mul] at hp
  exact ⟨_, hr, hp⟩
theorem RX.copy2 {w0 W : World} {o : Int} {n f : Nat} (h : RX w0 o f n W) (hf : f < n) : ∃ (W' : World) (c : Nat), c = Nat.min f (n - f) ∧ (Builtin.copy_ #[22, 22] 3 #[.slice (some ⟨w0.heap.size, f * 2, none⟩) (n - f) (n - f), .slice (some ⟨w0.heap.size, 0, none⟩) f n]).run Tryd.prog W = .ok (.int .i64 c) W' ∧ RX w0 o (f + c) n W' := by
  obtain ⟨c, hc⟩ : ∃ c, Nat.min f (n - f) = c := ⟨_, rfl⟩
  have hcf : c ≤ f := by rw [← hc]; exact Nat.min_le_left _ _
  have hcn : c ≤ n - f := by rw [← hc]; exact Nat.min_le_right _ _
  have hr := run_copy_row_sz (P := Tryd.prog) W 22 22 3 38 2 w0.heap.size (f * 2) (n - f) (n - f) ⟨w0.heap.size, 0, none⟩ f n _ 38 (flat (List.replicate c (0, o))) Tryd.underlying22 size38 h.h (by rw [flat_len, List.length_replicate, hc]) (h.src hcf (by omega)) (by rw [List.size_toArray, flat_len, flat_len, List.length_replicate, rowR_len o (by omega)]; omega) (flat_one _)
  rw [hc] at hr
  exact ⟨_, c, hc.symm, hr, h.put (by omega)⟩
set_option maxRecDepth 100000 in
set_option maxHeartbeats 2000000 in
theorem repeat_c (o : Int) (n : Nat) (hn : n ≤ 1000) (S cap : Nat) (w : World) (hS : Prs w (some ⟨S, 0, none⟩) [(0, o)]) : Calls Tryd.prog 62 #[.slice (some ⟨S, 0, none⟩) 1 cap, .int .i64 n] w fun e w' => e = .returned (.slice (some ⟨w.heap.size, 0, none⟩) n n) ∧ OX w.heap.size (List.replicate n (0, o)) w' ∧ Below w.heap.size w w' := by
  obtain ⟨i38, hi, hz0, hz1, hz2⟩ := info_parts info38
  have hnI : (n : Int) ≤ 1000 := by omega
  have hn0 : (0 : Int) ≤ (n : Int) := by omega
  have HMUL := Lib.hid (fun W => Tryd.bits_Mul 1 n (by omega) (by omega) W)
  rw [show 1 * n / 18446744073709551616 = 0 from by omega, show 1 * n % 18446744073709551616 = n from by omega] at HMUL
  have HSRC := Lib.hid hS
  have huw : IntKind.u64.wrap (n : Int) = (n : Int) := IntWalk.u64_in _ (by omega)
  clear hS
  go_enter Tryd.func62, Tryd.ntmps62
  go_wp2_with fail
  refine (HMUL.out _).mono ?_
  rintro e w1 ⟨rfl, rfl⟩
  go_wp2_with (refine wpList_make_full _ rfl (.tmp 29) (.tmp 29) 22 rfl w1.heap.size 38 i38 (.agg #[.int .i64 0, .int .i64 0]) 2 Tryd.underlying22 hi hz0 hz1 _ _ _ _ n rfl rfl rfl rfl (by rw [hz2]; omega) (by unfold maxLen; omega) (Nat.le_refl _) ?_; intro w2 hown2 hgrow2; have R2 := RX.make (w0 := w1) o hown2 hgrow2; obtain ⟨w3, hrun, R3⟩ := R2.copy1 (cap := cap) (HSRC.out.next R2.below) rfl; clear hown2 hgrow2 R2)
  have hc1 : Nat.min 1 n ≤ n := Nat.min_le_right _ _
  have hc2 : n ≠ 0 → 1 ≤ Nat.min 1 n := fun h => by simp only [Nat.min_def]; split <;> omega
  have HR3 := Lib.hid R3
  clear hrun R3
  generalize Nat.min 1 n = f0 at *
  go_loopw [8] (fun i wr => ∃ f : Nat, f ≤ n ∧ (n ≠ 0 → 1 ≤ f) ∧ i = .int .i64 f ∧ RX w1 o f n wr) (fun i _ => n - (intOf i).toNat)
  case atStart => exact ⟨f0, hc1, hc2, rfl, HR3.out⟩
  case round =>
    obtain ⟨f, hf, hf1, rfl, R⟩ := hrel
    have HR := Lib.hid R
    by_cases hlt : f < n
    · obtain ⟨w5, c, hc, hrun, R5⟩ := R.drew.copy2 hlt
      have HR5 := Lib.hid R5
      have hcp : 1 ≤ c := by have := hf1 (by omega); rw [hc]; simp only [Nat.min_def]; split <;> omega
      have hcn : f + c ≤ n := by rw [hc]; simp only [Nat.min_def]; split <;> omega
      have hne : ¬ n = f := by omega
      clear R R5 hc hf1
      go_wp2_with fail
      go_region
      all_goals
        go_wp2_with fail
        go_roundw
        case rel => exact ⟨f + c, hcn, fun _ => by omega, by go_num, HR5.out⟩
        case measure => simp [intOf]; omega
    · obtain rfl : f = n := by omega
      have HO := Lib.hid (HR.out.ox hn)
      go_wp2_with fail
      go_ret
      exact ⟨rfl, HO.out, HR.out.below⟩
end Go.Proofs.YtabfjiapoafgaaaDoor
