/-
  A range over a function, walked directly: the iterator's state and the caller's stand in one relation. Over any program.
-/
import Derived.RangeFuncNested
import Derived.RangeFuncBound
import Derived.RangeFuncCalls
import Derived.RangeFuncLeaves
import Derived.RangeFuncKeeps
import Derived.WalkKit
import Derived.Below
namespace Go.Proofs.YtabfjiapoafgaaaDoor
open Go.RowKit
set_option linter.unusedVariables false

/-- blocks from B on that are no cells have turned, or come -/
structure Turn (B : Nat) (W W' : World) : Prop where
  below : Below B W W'
  cells : ∀ (b : Nat) (cs : Array Value) (t : TypeId) (fr : Nat × Nat), W.heap[b]? = some (Obj.cells cs t fr) → W'.heap[b]? = some (Obj.cells cs t fr)
theorem Turn.trans {B : Nat} {a b c : World} (h : Turn B a b) (k : Turn B b c) : Turn B a c := ⟨h.below.trans k.below, fun x cs t fr e => k.cells _ _ _ _ (h.cells _ _ _ _ e)⟩
theorem Turn.alloc {B : Nat} (W : World) (o : Obj) (hB : B ≤ W.heap.size) : Turn B W (W.alloc o) :=
  ⟨(Below.refl B W).alloc hB o, fun b cs t fr e => (Below.heap_alloc W o b (Array.getElem?_eq_some_iff.1 e).1).trans e⟩
theorem Turn.putObj {B : Nat} {W : World} {l : Nat} {o : Obj} (o' : Obj) (hB : B ≤ l) (h : W.heap[l]? = some o) (ho : o.isCells = false) : Turn B W (W.putObj l o') :=
  ⟨(Below.refl B W).grown (grownBy_putObj' W l o') (by have := (Array.getElem?_eq_some_iff.1 h).1; omega) (fun k e => by cases e; exact hB), fun b cs t fr e => by
    refine (World.putObj_heap_other (fun hbl => ?_)).trans e
    subst hbl
    rw [h] at e
    cases e
    cases ho⟩
theorem cells_at {W : World} {a : Addr} {v : Value} (h : W.cell? a = some v) : ∃ (cs : Array Value) (t : TypeId) (fr : Nat × Nat), W.heap[a.block]? = some (Obj.cells cs t fr) := by
  obtain ⟨o, ho, hc⟩ := cells_of_cell h
  cases o <;> first | exact ⟨_, _, _, ho⟩ | (cases hc)
theorem Turn.cell {B : Nat} {W W' : World} (h : Turn B W W') {a : Addr} {v : Value} (hc : W.cell? a = some v) : W'.cell? a = some v := by
  obtain ⟨cs, t, fr, hb⟩ := cells_at hc
  rw [← hc]
  exact World.cell?_of_block ((h.cells _ _ _ _ hb).trans hb.symm)
theorem Turn.frozen {B : Nat} {W W' : World} (h : Turn B W W') {a : Addr} {v : Value} (hc : W.cell? a = some v) : W'.frozen? a = W.frozen? a := by
  obtain ⟨cs, t, fr, hb⟩ := cells_at hc
  have := h.cells _ _ _ _ hb
  simp [World.frozen?, hb, this]
theorem Turn.owns {B : Nat} {W W' : World} (h : Turn B W W') {base e size n : Nat} {v : Value} {xs : List Value} (ho : W.ownsRow base e size v n xs) : W'.ownsRow base e size v n xs := by
  obtain ⟨hl, h0 | ⟨g, cap, cur, hv, hg, hh, h1, h2, h3, h4⟩⟩ := ho
  · exact ⟨hl, .inl h0⟩
  · exact ⟨hl, .inr ⟨g, cap, cur, hv, hg, h.cells _ _ _ _ hh, h1, h2, h3, h4⟩⟩
/-- a fact that minds no such turn -/
def Abide (B : Nat) (I : World → Prop) : Prop := ∀ W W', Turn B W W' → I W → I W'
/-- how a body may be left -/
def outPost (Nx : World → Prop) (Ix : Code → World → Prop) (W : World) : Exit → Act → World → Prop
  | .normal, _, W' => KeepsOthers W W' ∧ Nx W'
  | .ret, _, W' => KeepsOthers W W' ∧ Ix .ret W'
  | .exit id, _, W' => KeepsOthers W W' ∧ Ix (.exit id) W'
  | .goto t, _, W' => KeepsOthers W W' ∧ Ix (.goto t) W'
  | .panic _, _, _ => False
  | .outgrown, _, _ => False
/-- the loop's record and the block of its deferred calls -/
structure Rec (L D : Nat) (r : Obj) (W : World) : Prop where
  l : W.heap[L]? = some r
  d : W.heap[D]? = some (.deferred (some []))
  rc : r.isCells = false
theorem Rec.same {L D : Nat} {r : Obj} {W W' : World} (h : Rec L D r W) (k : KeepsOthers W W') : Rec L D r W' := ⟨k.same _ _ h.l h.rc, k.same _ _ h.d rfl, h.rc⟩
theorem keeps_below {W W' : World} (hb : Below W.heap.size W W') : KeepsOthers W W' := ⟨hb.size, fun k o hk _ => (hb.block k (Array.getElem?_eq_some_iff.1 hk).1).trans hk⟩

theorem range_direct {F : Fence} {n : Nat} {P : Program} {σ : Type} {g : Operand} {ps : Array Tmp} {assign body : Code} {Q : Exit → Act → World → Prop} {a : Act} {w : World}
    (hro : F.round = none) (h1 : 1 ≤ n) {gf : Nat} {lb : Array Value} (hg : a.eval g = .func (.func gf) #[] lb) (hFg : F.fn gf) (eg : ∀ args w, (callFunc gf args).run P w = .ok (.enter gf args) w)
    (encs : σ → Array Value) (hps : ∀ s, (encs s).size = ps.size)
    (St Nx : σ → World → Prop) (Ix : Code → World → Prop) (Dn : World → Prop)
    (hSt : ∀ s, Abide w.heap.size (St s)) (hNx : ∀ s, Abide w.heap.size (Nx s)) (hIx : ∀ c, Abide w.heap.size (Ix c)) (hDn : Abide w.heap.size Dn)
    (a₁ : σ → Act)
    (hassign : ∀ (l : Nat) (s : σ) (W : World) (K : Act → World → Prop), K (a₁ s) W →
      assign.wpIn (F.inRound l) (n - 1 - 1) P (Exit.then K (fun _ _ _ => False)) { tmps := (ps.zip (encs s)).foldl (fun t (p, v) => t.setIfInBounds p v) a.tmps, defers := [] } W)
    (hbody : ∀ (l : Nat) (s : σ) (W : World), St s W → body.wpIn (F.inRound l) (n - 1 - 1) P (outPost (Nx s) Ix W) (a₁ s) W)
    (hiter : ∀ (L D : Nat) (r : Obj) (W1 : World) (Lv : World → Prop), Turn w.heap.size w W1 → Rec L D r W1 →
      (∀ s W, St s W → Rec L D r W → YieldAt F (n - 1 - 1) P L (encs s) W fun e W' => (e = .returned (.bool true) ∧ Nx s W' ∧ Rec L D r W') ∨ (e = .returned (.bool false) ∧ Lv W')) →
      CallsIn F (n - 1) P gf (#[.func (.yield L) #[] #[]] ++ lb) W1 fun e W' => (∃ v, e = .returned v) ∧ ((Dn W' ∧ Rec L D r W') ∨ Lv W'))
    (hdone : ∀ (D : Nat) (W : World), w.heap.size ≤ D → Dn W → W.heap[D]? = some (.deferred (some [])) → Q .normal { a with defers := { target := .collected D, args := #[] } :: a.defers } W)
    (hstop : ∀ (D : Nat) (c : Code) (W : World), w.heap.size ≤ D → Ix c W → W.heap[D]? = some (.deferred (some [])) → c.wpIn F n P Q { a with defers := { target := .collected D, args := #[] } :: a.defers } W) :
    (Code.rangeFunc g ps assign body).wpIn F n P Q a w := by
  refine wpIn_rangeFunc fun fn hfn => ?_
  rw [hro]
  obtain ⟨rec, hrec⟩ : ∃ rec : LoopState → Option Code → Loop, rec = fun st pe => { state := st, pending := pe, fn, tmps := a.tmps, params := ps, assign, body, defers := w.heap.size } := ⟨_, rfl⟩
  obtain ⟨W1, hW1⟩ : ∃ W1, (w.alloc (.deferred (some []))).alloc (.loop (rec .ready none)) = W1 := ⟨_, rfl⟩
  have hL1 : W1.heap[w.heap.size + 1]? = some (.loop (rec .ready none)) := by
    have := World.alloc_heap_new (w.alloc (.deferred (some []))) (.loop (rec .ready none))
    rwa [World.size_alloc, hW1] at this
  have hD1 : W1.heap[w.heap.size]? = some (.deferred (some [])) := by
    rw [← hW1]; exact (Below.heap_alloc _ _ _ (by simp)).trans (World.alloc_heap_new w _)
  have hT1 : Turn w.heap.size w W1 := by rw [← hW1]; exact (Turn.alloc w _ (Nat.le_refl _)).trans (Turn.alloc _ _ (by simp))
  refine ⟨w.heap.size + 1, [{ target := .collected w.heap.size, args := #[] }], W1, { target := .fn (.func gf) lb, args := #[.func (.yield (w.heap.size + 1)) #[] #[]] }, W1, gf,
    #[.func (.yield (w.heap.size + 1)) #[] #[]] ++ lb, W1, ?_, ?_, ?_, ?_, fun _ => h1, ?_⟩
  · rw [← hW1, hrec]; exact run_enterLoop_outer _ _ _ _ _
  · simp only [resolve, hg]
    simp [go_sem]
  · intro f' hf'
    simp [Target.leads] at hf'
    subst hf'
    exact hFg
  · simp [invoke, go_sem, eg]
  · have hR1 : Rec (w.heap.size + 1) w.heap.size (.loop (rec .ready none)) W1 := ⟨hL1, hD1, rfl⟩
    have hcall := hiter (w.heap.size + 1) w.heap.size (.loop (rec .ready none)) _
      (fun W => ∃ c, Ix c W ∧ W.heap[w.heap.size + 1]? = some (.loop (rec .done (some c))) ∧ W.heap[w.heap.size]? = some (.deferred (some []))) hT1 hR1 ?_
    · refine hcall.mono ?_
      rintro e W2 ⟨⟨v, rfl⟩, (⟨hd, hR⟩ | ⟨c, hx, hl, hk⟩)⟩
      · exact ⟨none, _, by have := run_endLoop (P := P) hR.l (by rw [hrec]; simp); rw [hrec] at this; exact this, hdone _ _ (Nat.le_refl _) (hDn _ _ (Turn.putObj _ (by omega) hR.l rfl) hd) ((World.putObj_heap_other (by omega)).trans hR.d)⟩
      · exact ⟨some c, _, by have := run_endLoop (P := P) hl (by rw [hrec]; simp); rw [hrec] at this; exact this, hstop _ c _ (Nat.le_refl _) (hIx c _ _ (Turn.putObj _ (by omega) hl rfl) hx) ((World.putObj_heap_other (by omega)).trans hk)⟩
    · rintro s W hs hR
      have hlt : w.heap.size + 1 < W.heap.size := (Array.getElem?_eq_some_iff.1 hR.l).1
      have hy := run_yield (P := P) (args := encs s) hR.l (by rw [hrec]; exact hps s)
      rw [hrec] at hy
      refine ⟨fn, _, assign, body, hy, roundIn_of_wpIn hfn (hassign _ s W _ ⟨_, run_beginRound hR.l (by rw [hrec]), ?_⟩)⟩
      have hT2 : Turn w.heap.size W (W.putObj (w.heap.size + 1) (.loop { rec .ready none with state := .busy })) := Turn.putObj _ (by omega) hR.l rfl
      have hl2 : (W.putObj (w.heap.size + 1) (.loop { rec .ready none with state := .busy })).heap[w.heap.size + 1]? = some (.loop { rec .ready none with state := .busy }) := World.putObj_heap_same hlt
      have hk2 : (W.putObj (w.heap.size + 1) (.loop { rec .ready none with state := .busy })).heap[w.heap.size]? = some (.deferred (some [])) := (World.putObj_heap_other (by omega)).trans hR.d
      refine wpIn_mono (hbody _ s _ (hSt s _ _ hT2 hs)) ?_
      have fin : ∀ (jump : Option Code) (W3 : World), KeepsOthers (W.putObj (w.heap.size + 1) (.loop { rec .ready none with state := .busy })) W3 →
          (Instr.endRound (w.heap.size + 1) jump).run P W3 = .ok (.bool jump.isNone) (W3.putObj (w.heap.size + 1) (.loop (rec (if jump.isNone then .ready else .done) jump))) ∧
          W3.heap[w.heap.size + 1]? = some (.loop { rec .ready none with state := .busy }) ∧
          (W3.putObj (w.heap.size + 1) (.loop (rec (if jump.isNone then .ready else .done) jump))).heap[w.heap.size + 1]? = some (.loop (rec (if jump.isNone then .ready else .done) jump)) ∧
          (W3.putObj (w.heap.size + 1) (.loop (rec (if jump.isNone then .ready else .done) jump))).heap[w.heap.size]? = some (.deferred (some [])) := fun jump W3 hk3 => by
        have hl3 := hk3.same _ _ hl2 rfl
        have := run_endRound (P := P) jump hl3
        rw [hrec] at this ⊢
        exact ⟨this, by rw [hrec] at hl3; exact hl3, World.putObj_heap_same (Array.getElem?_eq_some_iff.1 hl3).1, (World.putObj_heap_other (by omega)).trans (hk3.same _ _ hk2 rfl)⟩
      rintro e a3 W3 hp
      cases e with
      | normal =>
        obtain ⟨hk3, hn3⟩ := hp
        obtain ⟨hr, hl3, hl4, hk4⟩ := fin none W3 hk3
        exact ⟨_, _, hr, .inl ⟨rfl, hNx s _ _ (Turn.putObj _ (by omega) hl3 rfl) hn3, hl4, hk4, rfl⟩⟩
      | ret =>
        obtain ⟨hk3, hi3⟩ := hp
        obtain ⟨hr, hl3, hl4, hk4⟩ := fin (some .ret) W3 hk3
        exact ⟨_, _, hr, .inr ⟨rfl, .ret, hIx _ _ _ (Turn.putObj _ (by omega) hl3 rfl) hi3, hl4, hk4⟩⟩
      | exit id =>
        obtain ⟨hk3, hi3⟩ := hp
        obtain ⟨hr, hl3, hl4, hk4⟩ := fin (some (.exit id)) W3 hk3
        exact ⟨_, _, hr, .inr ⟨rfl, .exit id, hIx _ _ _ (Turn.putObj _ (by omega) hl3 rfl) hi3, hl4, hk4⟩⟩
      | goto t =>
        obtain ⟨hk3, hi3⟩ := hp
        obtain ⟨hr, hl3, hl4, hk4⟩ := fin (some (.goto t)) W3 hk3
        exact ⟨_, _, hr, .inr ⟨rfl, .goto t, hIx _ _ _ (Turn.putObj _ (by omega) hl3 rfl) hi3, hl4, hk4⟩⟩
      | panic ch => exact hp.elim
      | outgrown => exact hp.elim
end Go.Proofs.YtabfjiapoafgaaaDoor
