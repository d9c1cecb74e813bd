/-
  Parse: the events of a text, or the number of its first invalid line.
-/
import Derived.Test.YtdfconiahfdhbaaDoorPrl
import Derived.Test.YtdfconiahfdhbaaDoorSeq
import Derived.Test.YtdfconiahfdhbaaDoorTxp
import Derived.RegionIn
import Derived.RangeFuncBox
namespace Go.Proofs.YtdfconiahfdhbaaDoor
open Go.RowKit Go.Shelf
attribute [local go_sem] Oper.semAt_some

/-- Parse's own cells: the results', the events' and the count's; the events' array -/
structure PT (w : World) (l : List Ev) (v : Value) (m : Int) (W : World) : Prop where
  below : Below w.heap.size w W
  lt : w.heap.size + 8 ≤ W.heap.size
  r0 : W.cell? ⟨w.heap.size, 0, none⟩ = some (.slice none 0 0)
  r1 : W.cell? ⟨w.heap.size + 1, 0, none⟩ = some (.int .i64 0)
  r2 : W.cell? ⟨w.heap.size + 2, 0, none⟩ = some (.int .i64 0)
  ev : W.cell? ⟨w.heap.size + 3, 0, none⟩ = some v
  n : W.cell? ⟨w.heap.size + 4, 0, none⟩ = some (.int .i64 m)
  f0 : W.frozen? ⟨w.heap.size, 0, none⟩ = false
  f1 : W.frozen? ⟨w.heap.size + 1, 0, none⟩ = false
  f2 : W.frozen? ⟨w.heap.size + 2, 0, none⟩ = false
  f3 : W.frozen? ⟨w.heap.size + 3, 0, none⟩ = false
  f4 : W.frozen? ⟨w.heap.size + 4, 0, none⟩ = false
  own : W.ownsRow (w.heap.size + 8) 26 6 v l.length (flat l)
theorem PT.next {w W W' : World} {l : List Ev} {v : Value} {m : Int} (h : PT w l v m W) (hb : Below W.heap.size W W') : PT w l v m W' := by
  obtain ⟨hc, hf⟩ := bcell hb
  have hs := h.lt
  exact ⟨bt h.below hb, Nat.le_trans hs hb.size, (hc _ _ (by omega)).trans h.r0, (hc _ _ (by omega)).trans h.r1, (hc _ _ (by omega)).trans h.r2, (hc _ _ (by omega)).trans h.ev, (hc _ _ (by omega)).trans h.n,
    (hf _ _ (by omega)).trans h.f0, (hf _ _ (by omega)).trans h.f1, (hf _ _ (by omega)).trans h.f2, (hf _ _ (by omega)).trans h.f3, (hf _ _ (by omega)).trans h.f4, owns_below h.own hb⟩
theorem PT.turn {w W W' : World} {l : List Ev} {v : Value} {m : Int} (h : PT w l v m W) (ht : Turn (w.heap.size + 8) W W') : PT w l v m W' :=
  ⟨h.below.trans (ht.below.mono (by omega)), Nat.le_trans h.lt ht.below.size, ht.cell h.r0, ht.cell h.r1, ht.cell h.r2, ht.cell h.ev, ht.cell h.n,
    (ht.frozen h.r0).trans h.f0, (ht.frozen h.r1).trans h.f1, (ht.frozen h.r2).trans h.f2, (ht.frozen h.ev).trans h.f3, (ht.frozen h.n).trans h.f4, ht.owns h.own⟩
theorem far (W : World) {a b : Nat} (h : a ≠ b) (u : Value) : (W.setCell ⟨a, 0, none⟩ u).cell? ⟨b, 0, none⟩ = W.cell? ⟨b, 0, none⟩ := World.cell?_setCell_other W _ _ u (fun q => h (by have := congrArg Addr.block q; simpa using this))
theorem PT.setS {w W : World} {l : List Ev} {v : Value} {m : Int} (h : PT w l v m W) (u : Value) : PT w l v m (W.setCell ⟨w.heap.size + 5, 0, none⟩ u) :=
  ⟨h.below.setCell (by simp only; omega) _, by simpa using h.lt, (far W (by omega) u).trans h.r0, (far W (by omega) u).trans h.r1, (far W (by omega) u).trans h.r2, (far W (by omega) u).trans h.ev, (far W (by omega) u).trans h.n,
    by simpa using h.f0, by simpa using h.f1, by simpa using h.f2, by simpa using h.f3, by simpa using h.f4, owns_set h.own (by simp only; omega) _⟩
theorem PT.setN {w W : World} {l : List Ev} {v : Value} {m : Int} (h : PT w l v m W) (m' : Int) : PT w l v m' (W.setCell ⟨w.heap.size + 4, 0, none⟩ (.int .i64 m')) :=
  ⟨h.below.setCell (by simp only; omega) _, by simpa using h.lt, (far W (by omega) _).trans h.r0, (far W (by omega) _).trans h.r1, (far W (by omega) _).trans h.r2, (far W (by omega) _).trans h.ev, World.cell?_setCell_same _ _ _ h.n,
    by simpa using h.f0, by simpa using h.f1, by simpa using h.f2, by simpa using h.f3, by simpa using h.f4, owns_set h.own (by simp only; omega) _⟩
theorem It.turn {B S E V : Nat} {r : List UInt8} {W W' : World} (h : It S E V r W) (ht : Turn B W W') : It S E V r W' :=
  ⟨ht.cell h.s, (ht.frozen h.s).trans h.sf, ht.cell h.e, ht.cell h.v⟩
/-- what Parse answers -/
def ParsesP (s : List UInt8) (w : World) (e : Ending) (w' : World) : Prop := ∃ (l : List Ev) (rest : List UInt8), s = txt l ++ rest ∧ Vld l ∧ ((rest = [] ∧ ∃ A cap, e = .returned (.tuple #[.slice A l.length cap, .int .i64 0, .int .i64 0]) ∧ Evs w' A l) ∨ (rest ≠ [] ∧ Stuck rest ∧ e = .returned (.tuple #[.slice none 0 0, .int .i64 (l.length + 1), .int .i64 2]))) ∧ Below w.heap.size w w'
/-- between two rounds -/
def PJ (w : World) (p : List UInt8) (W : World) : Prop := ∃ l v, p = txt l ∧ Vld l ∧ PT w l v l.length W
def PStop (w : World) (tot : List UInt8) (c : Code) (W : World) : Prop :=
  (c = .exit 0 ∧ ∃ l v m, tot = txt l ∧ Vld l ∧ PT w l v m W) ∨
  (c = .ret ∧ ∃ l rest, tot = txt l ++ rest ∧ Vld l ∧ rest ≠ [] ∧ Stuck rest ∧ Below w.heap.size w W ∧ w.heap.size + 8 ≤ W.heap.size ∧ W.cell? ⟨w.heap.size, 0, none⟩ = some (.slice none 0 0) ∧ W.cell? ⟨w.heap.size + 1, 0, none⟩ = some (.int .i64 (l.length + 1)) ∧ W.cell? ⟨w.heap.size + 2, 0, none⟩ = some (.int .i64 2))
theorem keeps_grow {base : Nat} {e : TypeId} {size n : Nat} {v : Value} {xs : List Value} {W W' : World} (ho : W.ownsRow base e size v n xs) (hg : W.grownBy W' v.ownBlock) : KeepsOthers W W' := by
  refine KeepsOthers.of_grownBy hg fun j o ej hj => ?_
  rcases ho.2 with ⟨rfl, _⟩ | ⟨g, cap, cur, rfl, _, hgb, _⟩
  · simp [Value.ownBlock] at ej
  · obtain rfl : g = j := by simpa [Value.ownBlock] using ej
    rw [hgb] at hj; cases hj; rfl
theorem PT.grow {w W W' : World} {l l' : List Ev} {v v' : Value} {m : Int} (h : PT w l v m W) (hg : W.grownBy W' v.ownBlock) (ho : W'.ownsRow (w.heap.size + 8) 26 6 v' l'.length (flat l')) : PT w l' v' m (W'.setCell ⟨w.heap.size + 3, 0, none⟩ v') := by
  have hl := h.lt
  have hn : ∀ a, a < w.heap.size + 8 → some a ≠ v.ownBlock := fun a ha e => by have := (h.own.lt _ e.symm).1; omega
  have c : ∀ a, a < w.heap.size + 8 → W'.cell? ⟨a, 0, none⟩ = W.cell? ⟨a, 0, none⟩ := fun a ha => hg.cell_far ⟨a, 0, none⟩ (by simp only; omega) (hn a ha)
  have f : ∀ a, a < w.heap.size + 8 → W'.frozen? ⟨a, 0, none⟩ = W.frozen? ⟨a, 0, none⟩ := fun a ha => hg.frozen_far ⟨a, 0, none⟩ (by simp only; omega) (hn a ha)
  have hb : Below w.heap.size w W' := h.below.grown hg (by omega) (fun j e => by have := (h.own.lt _ e).1; omega)
  exact ⟨hb.setCell (by simp only; omega) _, by simpa using Nat.le_trans hl hg.size, ((far W' (by omega) _).trans (c _ (by omega))).trans h.r0, ((far W' (by omega) _).trans (c _ (by omega))).trans h.r1, ((far W' (by omega) _).trans (c _ (by omega))).trans h.r2,
    World.cell?_setCell_same _ _ _ ((c _ (by omega)).trans h.ev), ((far W' (by omega) _).trans (c _ (by omega))).trans h.n, by simpa using (f _ (by omega)).trans h.f0, by simpa using (f _ (by omega)).trans h.f1, by simpa using (f _ (by omega)).trans h.f2, by simpa using (f _ (by omega)).trans h.f3, by simpa using (f _ (by omega)).trans h.f4, owns_set ho (by simp only; omega) _⟩
theorem It.grow {B S E V : Nat} {r : List UInt8} {W W' : World} {row : Option Nat} (h : It S E V r W) (hg : W.grownBy W' row) (hB : B ≤ W.heap.size) (hn : ∀ j, row = some j → B ≤ j) (hS : S < B) (hE : E < B) (hV : V < B) : It S E V r W' := by
  have k : ∀ a, a < B → some a ≠ row := fun a ha e => by have := hn a e.symm; omega
  exact ⟨(hg.cell_far ⟨S, 0, none⟩ (by simp only; omega) (k S hS)).trans h.s, (hg.frozen_far ⟨S, 0, none⟩ (by simp only; omega) (k S hS)).trans h.sf, (hg.cell_far ⟨E, 0, none⟩ (by simp only; omega) (k E hE)).trans h.e, (hg.cell_far ⟨V, 0, none⟩ (by simp only; omega) (k V hV)).trans h.v⟩
theorem It.next {S E V : Nat} {r : List UInt8} {W W' : World} (h : It S E V r W) (hb : Below W.heap.size W W') (hS : S < W.heap.size) (hE : E < W.heap.size) (hV : V < W.heap.size) : It S E V r W' := by
  obtain ⟨hc, hf⟩ := bcell hb
  exact ⟨(hc _ _ hS).trans h.s, (hf _ _ hS).trans h.sf, (hc _ _ hE).trans h.e, (hc _ _ hV).trans h.v⟩
theorem It.far {S E V a : Nat} {r : List UInt8} {W : World} (h : It S E V r W) (hS : a ≠ S) (hE : a ≠ E) (hV : a ≠ V) (u : Value) : It S E V r (W.setCell ⟨a, 0, none⟩ u) :=
  ⟨(YtdfconiahfdhbaaDoor.far W hS u).trans h.s, by simpa using h.sf, (YtdfconiahfdhbaaDoor.far W hE u).trans h.e, (YtdfconiahfdhbaaDoor.far W hV u).trans h.v⟩
theorem line_pos (l : List Ev) : l.length ≤ (txt l).length := by
  induction l with
  | nil => exact Nat.le_refl _
  | cons e l ih =>
    rw [txt_cons, List.length_append, List.length_cons]
    have : 1 ≤ (lineE e).length := by unfold lineE; simp
    omega
theorem PJ.turn {w W W' : World} {p : List UInt8} (h : PJ w p W) (ht : Turn (w.heap.size + 8) W W') : PJ w p W' := by
  obtain ⟨l, v, h1, h2, h3⟩ := h
  exact ⟨l, v, h1, h2, h3.turn ht⟩
theorem PJ.setS {w W : World} {p : List UInt8} (h : PJ w p W) (u : Value) : PJ w p (W.setCell ⟨w.heap.size + 5, 0, none⟩ u) := by
  obtain ⟨l, v, h1, h2, h3⟩ := h
  exact ⟨l, v, h1, h2, h3.setS u⟩
theorem PJ.zero {w W : World} {v : Value} (h : PT w [] v 0 W) : PJ w [] W := ⟨[], v, rfl, Vld.nil, h⟩
theorem PStop.turn {w W W' : World} {tot : List UInt8} {c : Code} (h : PStop w tot c W) (ht : Turn (w.heap.size + 8) W W') : PStop w tot c W' := by
  rcases h with ⟨rfl, l, v, m, h1, h2, h3⟩ | ⟨rfl, l, rest, h1, h2, h3, h4, h5, h6, h7, h8, h9⟩
  · exact .inl ⟨rfl, l, v, m, h1, h2, h3.turn ht⟩
  · exact .inr ⟨rfl, l, rest, h1, h2, h3, h4, h5.trans (ht.below.mono (by omega)), Nat.le_trans h6 ht.below.size, ht.cell h7, ht.cell h8, ht.cell h9⟩
theorem PT.start (s : ByteArray) (w : World) : PT w [] (.slice none 0 0) 0 ((((((((w.alloc (.cells #[.slice none 0 0] 22)).alloc (.cells #[.int .i64 0] 3)).alloc (.cells #[.int .i64 0] 30)).alloc (.cells #[.slice none 0 0] 22)).alloc (.cells #[.int .i64 0] 3)).alloc (.cells #[.string s] 9)).alloc (.cells #[.string ⟨#[10]⟩] 9)).alloc (.cells #[.int .i64 1] 3)) := by
  refine ⟨?_, by simp, ?_, ?_, ?_, ?_, ?_, ?_, ?_, ?_, ?_, ?_, World.ownsRow_nil _ _ _ _⟩
  · exact bt (bt (bt (bt (bt (bt (bt (ba _ _) (ba _ _)) (ba _ _)) (ba _ _)) (ba _ _)) (ba _ _)) (ba _ _)) (ba _ _)
  all_goals go_simp
theorem It.start (s : ByteArray) (w : World) : It (w.heap.size + 5) (w.heap.size + 6) (w.heap.size + 7) s.data.toList ((((((((w.alloc (.cells #[.slice none 0 0] 22)).alloc (.cells #[.int .i64 0] 3)).alloc (.cells #[.int .i64 0] 30)).alloc (.cells #[.slice none 0 0] 22)).alloc (.cells #[.int .i64 0] 3)).alloc (.cells #[.string s] 9)).alloc (.cells #[.string ⟨#[10]⟩] 9)).alloc (.cells #[.int .i64 1] 3)) := by
  refine ⟨?_, ?_, ?_, ?_⟩
  all_goals go_simp
theorem parseL_q (s : ByteArray) (hs : s.size ≤ 100000) (w : World) (hr : Rdy w) : Calls Tryd.prog 37 #[.string s] w fun r w' => ∃ (ev : Ev) (b : Bool), r = .returned (.tuple #[.agg #[.int .i64 ev.kind, .int .i64 ev.time, .int .i64 ev.task, .int .i64 ev.n, .int .i16 ev.value, .int .i64 ev.port], .bool b]) ∧ InE ev ∧ (b = true → validE ev = true ∧ s.data.toList = lineE ev) ∧ (b = false → ∀ X, InE X → validE X = true → s.data.toList ≠ lineE X) ∧ Below w.heap.size w w' := parseL_c s hs w hr
theorem makeSeq_c (s : ByteArray) (w : World) : Calls Tryd.prog 36 #[.string s, .string ⟨#[10]⟩] w fun e w' => e = .returned (.func (.func 54) #[] #[.pointer (some ⟨w.heap.size + 1, 0, none⟩), .pointer (some ⟨w.heap.size, 0, none⟩), .pointer (some ⟨w.heap.size + 2, 0, none⟩)]) ∧ w' = ((w.alloc (.cells #[.string s] 9)).alloc (.cells #[.string ⟨#[10]⟩] 9)).alloc (.cells #[.int .i64 1] 3) := by
  have h47 : ∀ W, Calls Tryd.prog 47 #[.string s, .string ⟨#[10]⟩, .int .i64 1] W fun e w' => e = .returned (.func (.func 54) #[] #[.pointer (some ⟨W.heap.size + 1, 0, none⟩), .pointer (some ⟨W.heap.size, 0, none⟩), .pointer (some ⟨W.heap.size + 2, 0, none⟩)]) ∧ w' = ((W.alloc (.cells #[.string s] 9)).alloc (.cells #[.string ⟨#[10]⟩] 9)).alloc (.cells #[.int .i64 1] 3) := fun W => by
    go_enter Tryd.func47, Tryd.ntmps47
    go_wp2_with fail
    go_ret
    exact ⟨by simp, rfl⟩
  go_enter Tryd.func36, Tryd.ntmps36
  go_wp2_with fail
  refine (h47 _).mono ?_
  rintro e w1 ⟨rfl, rfl⟩
  go_wp2_with fail
  go_ret
  exact ⟨rfl, rfl⟩
set_option maxRecDepth 100000 in
set_option maxHeartbeats 4000000 in
theorem parse_c (s : ByteArray) (hs : s.size ≤ 100000) (w : World) (hr : Rdy w) : Calls Tryd.prog 15 #[.string s] w (ParsesP s.data.toList w) := by
  refine (callsIn_wide (n := 3)).1 ?_
  refine callsIn_of_wp_marks Tryd.func15 rfl trivial ?_ rfl
  simp only [Tryd.ntmps15, List.size_toArray, List.length_cons, List.length_nil, Nat.reduceAdd, Nat.reduceSub, Array.replicate_succ, Array.replicate_zero, List.push_toArray, List.append_toArray, List.nil_append, List.cons_append]
  gi_wp2_with (refine ⟨trivial, ?_⟩; gi_at_call 36; refine (callsIn_wide.2 (makeSeq_c _ _)).mono ?_; rintro e w2 ⟨rfl, rfl⟩)
  simp only [Nat.add_assoc, Nat.reduceAdd]
  have hT0 := PT.start s w
  have hI0 := It.start s w
  have hsz : (((((((((w.alloc (.cells #[.slice none 0 0] 22)).alloc (.cells #[.int .i64 0] 3)).alloc (.cells #[.int .i64 0] 30)).alloc (.cells #[.slice none 0 0] 22)).alloc (.cells #[.int .i64 0] 3)).alloc (.cells #[.string s] 9)).alloc (.cells #[.string ⟨#[10]⟩] 9)).alloc (.cells #[.int .i64 1] 3))).heap.size = w.heap.size + 8 := by simp
  generalize (((((((w.alloc (.cells #[.slice none 0 0] 22)).alloc (.cells #[.int .i64 0] 3)).alloc (.cells #[.int .i64 0] 30)).alloc (.cells #[.slice none 0 0] 22)).alloc (.cells #[.int .i64 0] 3)).alloc (.cells #[.string s] 9)).alloc (.cells #[.string ⟨#[10]⟩] 9)).alloc (.cells #[.int .i64 1] 3) = W0 at *
  have htl : s.data.toList.length = s.size := rfl
  refine range_direct (σ := List UInt8 × List UInt8 × List UInt8) rfl (by omega) (gf := 54) (lb := #[.pointer (some ⟨w.heap.size + 6, 0, none⟩), .pointer (some ⟨w.heap.size + 5, 0, none⟩), .pointer (some ⟨w.heap.size + 7, 0, none⟩)]) rfl trivial (enters_of Tryd.func54 (by kernel_rfl) rfl) (fun σ => #[.string ⟨σ.2.1.toArray⟩]) (fun _ => rfl)
    (fun σ W => (s.data.toList = σ.1 ++ (σ.2.1 ++ σ.2.2) ∧ ((∃ q, σ.2.1 = q ++ [10] ∧ (10 : UInt8) ∉ q) ∨ ((10 : UInt8) ∉ σ.2.1 ∧ σ.2.2 = []))) ∧ PJ w σ.1 W ∧ It (w.heap.size + 5) (w.heap.size + 6) (w.heap.size + 7) (σ.2.1 ++ σ.2.2) W)
    (fun σ W => PJ w (σ.1 ++ σ.2.1) W ∧ It (w.heap.size + 5) (w.heap.size + 6) (w.heap.size + 7) (σ.2.1 ++ σ.2.2) W)
    (PStop w s.data.toList) (PJ w s.data.toList)
    (fun σ W W' ht h => by rw [hsz] at ht; exact ⟨h.1, h.2.1.turn ht, h.2.2.turn ht⟩)
    (fun σ W W' ht h => by rw [hsz] at ht; exact ⟨h.1.turn ht, h.2.turn ht⟩)
    (fun c W W' ht h => by rw [hsz] at ht; exact h.turn ht)
    (fun W W' ht h => by rw [hsz] at ht; exact h.turn ht)
    (fun σ => { tmps := #[.string s, undef, .pointer (some ⟨w.heap.size, 0, none⟩), .pointer (some ⟨w.heap.size + 1, 0, none⟩), .pointer (some ⟨w.heap.size + 2, 0, none⟩), .pointer (some ⟨w.heap.size + 3, 0, none⟩), .pointer (some ⟨w.heap.size + 4, 0, none⟩), .string ⟨σ.2.1.toArray⟩, undef, undef, .string s, .func (.func 54) #[] #[.pointer (some ⟨w.heap.size + 6, 0, none⟩), .pointer (some ⟨w.heap.size + 5, 0, none⟩), .pointer (some ⟨w.heap.size + 7, 0, none⟩)], .string ⟨σ.2.1.toArray⟩, undef, undef, undef, undef, undef, undef, undef, undef, undef, undef, undef, undef, undef, undef, undef, undef, undef], defers := [] }) ?assign ?body ?iter ?done ?stop
  case assign =>
    intro l σ W K hK
    gi_wp2
    exact hK
  case iter =>
    intro L D rr W1 Lv ht hR hY
    rw [hsz] at ht
    refine (iter54 (by omega) L (w.heap.size + 5) (w.heap.size + 6) (w.heap.size + 7) (by omega) (by omega) s.data.toList (by omega) (fun p _ W => PJ w p W ∧ Rec L D rr W) Lv (fun p r W v h => ⟨h.1.setS v, h.2.same (KeepsOthers.setCell _ _ _)⟩) ?_ W1 ⟨PJ.turn (PJ.zero hT0) ht, hR⟩ (hI0.turn ht)).mono ?_
    · intro p f r W htot hfr hJ hI
      exact (hY (p, f, r) W ⟨⟨htot, hfr⟩, hJ.1, hI⟩ hJ.2).mono fun e W' h => by
        rcases h with ⟨he, hn, hr'⟩ | ⟨he, hl⟩
        · exact .inl ⟨he, ⟨hn.1, hr'⟩, hn.2⟩
        · exact .inr ⟨he, hl⟩
    · rintro e W' ⟨he, h | h⟩
      · exact ⟨he, .inl ⟨h.1, h.2⟩⟩
      · exact ⟨he, .inr h⟩
  case body =>
    rintro l ⟨p, f, r⟩ W ⟨⟨htot, hfr⟩, ⟨le, v, hp, hv, T⟩, I⟩
    simp only at htot hfr hp I
    have hlp := line_pos le
    have hle : le.length ≤ 100000 := by
      have h1 := congrArg List.length htot
      rw [List.length_append, hp] at h1
      omega
    have hlI : (le.length : Int) ≤ 100000 := by omega
    have hfs : f.length ≤ 100000 := by
      have h1 := congrArg List.length htot
      rw [List.length_append, List.length_append] at h1
      omega
    have HTOT := Lib.hid htot
    have HFR := Lib.hid hfr
    have HP := Lib.hid hp
    have HV := Lib.hid hv
    have HT := Lib.hid T
    have HI := Lib.hid I
    obtain ⟨_, hlt, r0, r1, r2, ev, n, f0, f1, f2, f3, f4, _⟩ := T
    clear htot hfr hp hv I hlp htl hT0 hI0
    have TN := Lib.hid (HT.out.setN ((le.length : Int) + 1))
    have IN := Lib.hid (HI.out.far (a := w.heap.size + 4) (by omega) (by omega) (by omega) (.int .i64 ((le.length : Int) + 1)))
    by_cases hf : f = []
    · have HF := Lib.hid hf
      have e1 : (⟨f.toArray⟩ : ByteArray).toList.isEmpty = true := by rw [Lib.toList_data, hf]; rfl
      clear hf
      generalize (⟨f.toArray⟩ : ByteArray) = b at *
      gi_wp2
      exact ⟨KeepsOthers.setCell _ _ _, .inl ⟨rfl, le, v, _, by
        rw [HTOT.out, HF.out, HP.out]
        rcases HFR.out with ⟨q, h, _⟩ | ⟨_, h⟩
        · rw [HF.out] at h; simp at h
        · rw [h]; simp, HV.out, TN.out⟩⟩
    · have HF := Lib.hid hf
      have e1 : (⟨f.toArray⟩ : ByteArray).toList.isEmpty = false := by rw [Lib.toList_data]; simpa using hf
      have hbd : (⟨f.toArray⟩ : ByteArray).data.toList = f := rfl
      have hbs : (⟨f.toArray⟩ : ByteArray).size ≤ 100000 := hfs
      have HPR := Lib.hid (fun W h => parseL_q ⟨f.toArray⟩ hbs W h)
      have HRD := Lib.hid (hr.next TN.out.below)
      clear hf hbs
      rw [hbd] at HPR
      clear hbd
      generalize (⟨f.toArray⟩ : ByteArray) = b at *
      gi_wp2
      refine ⟨trivial, ?_⟩
      gi_at_call 37
      refine (CallsIn.inRound l (callsIn_wide.2 (HPR.out _ HRD.out))).mono ?_
      rintro e w3 ⟨x, ok, rfl, hin, hyes, hno, hb3⟩
      have T3 := TN.out.next hb3
      have I3 := IN.out.next hb3 (by simp; omega) (by simp; omega) (by simp; omega)
      have K3 := (KeepsOthers.setCell W ⟨w.heap.size + 4, 0, none⟩ (.int .i64 ((le.length : Int) + 1))).trans (keeps_below hb3)
      have HX := Lib.hid (And.intro hin (And.intro hyes hno))
      clear r0 r1 r2 ev n f0 f1 f2 f3 f4 hlt hb3 hin hyes hno TN IN HT HI HPR HRD
      cases ok
      · have T4 := T3.next (ba w3 (.cells #[.int .i64 x.kind, .int .i64 x.time, .int .i64 x.task, .int .i64 x.n, .int .i16 x.value, .int .i64 x.port] 26))
        have K4 := K3.trans (KeepsOthers.alloc w3 (.cells #[.int .i64 x.kind, .int .i64 x.time, .int .i64 x.task, .int .i64 x.n, .int .i16 x.value, .int .i64 x.port] 26))
        have HK := Lib.hid K4
        have HT := Lib.hid T4
        have HST := Lib.hid (show Stuck (f ++ r) from by
          rcases HFR.out with ⟨q, rfl, hq⟩ | ⟨h, rfl⟩
          · rw [List.append_assoc]; exact stuck_line hq (HX.out.2.2 rfl)
          · rw [List.append_nil]; exact stuck_none h)
        clear T3 I3 K3 K4 HX
        obtain ⟨_, hlt, r0, r1, r2, ev, n, f0, f1, f2, f3, f4, _⟩ := T4
        gi_wp2
        generalize w3.alloc (.cells #[.int .i64 x.kind, .int .i64 x.time, .int .i64 x.task, .int .i64 x.n, .int .i16 x.value, .int .i64 x.port] 26) = W4 at *
        gi_region
        all_goals
          gi_wp2
          exact ⟨(((HK.out.trans (KeepsOthers.setCell _ _ _)).trans (KeepsOthers.setCell _ _ _)).trans (KeepsOthers.setCell _ _ _)).trans (KeepsOthers.drew _), .inr ⟨rfl, le, f ++ r, by rw [HTOT.out, HP.out], HV.out, by simp [HF.out], HST.out,
            (((HT.out.below.setCell (p := ⟨w.heap.size, 0, none⟩) (Nat.le_refl _) _).setCell (p := ⟨w.heap.size + 1, 0, none⟩) (by simp only; omega) _).setCell (p := ⟨w.heap.size + 2, 0, none⟩) (by simp only; omega) _).drew,
            by simp; omega, by go_simp, by go_simp, by go_simp⟩⟩
      · obtain ⟨hvx, hfx⟩ := HX.out.2.1 rfl
        have HIX := Lib.hid (And.intro HX.out.1 hvx)
        have HFX := Lib.hid hfx
        obtain ⟨i26, hi, hz0, hz1, hz2⟩ := info_parts info26
        have hb4 := ba w3 (.cells #[.int .i64 x.kind, .int .i64 x.time, .int .i64 x.task, .int .i64 x.n, .int .i16 x.value, .int .i64 x.port] 26)
        have T4 := T3.next hb4
        have I4 := I3.next hb4 (by have := T3.lt; omega) (by have := T3.lt; omega) (by have := T3.lt; omega)
        have K4 := K3.trans (KeepsOthers.alloc w3 (.cells #[.int .i64 x.kind, .int .i64 x.time, .int .i64 x.task, .int .i64 x.n, .int .i16 x.value, .int .i64 x.port] 26))
        have X4 := EX.start w3 x 26
        have hb5 := ba (w3.alloc (.cells #[.int .i64 x.kind, .int .i64 x.time, .int .i64 x.task, .int .i64 x.n, .int .i16 x.value, .int .i64 x.port] 26)) (.cells #[.int .i64 x.kind, .int .i64 x.time, .int .i64 x.task, .int .i64 x.n, .int .i16 x.value, .int .i64 x.port] 26)
        have HT := Lib.hid (T4.next hb5)
        have HI := Lib.hid (I4.next hb5 (by have := T4.lt; omega) (by have := T4.lt; omega) (by have := T4.lt; omega))
        have HK := Lib.hid (K4.trans (KeepsOthers.alloc (w3.alloc (.cells #[.int .i64 x.kind, .int .i64 x.time, .int .i64 x.task, .int .i64 x.n, .int .i16 x.value, .int .i64 x.port] 26)) (.cells #[.int .i64 x.kind, .int .i64 x.time, .int .i64 x.task, .int .i64 x.n, .int .i16 x.value, .int .i64 x.port] 26)))
        have hown := HT.out.own
        have hlt := HT.out.lt
        have a0 := HT.out.ev
        have a1 := HT.out.f3
        have hne : v.ownBlock ≠ some (w.heap.size + 3) := fun e => by have := (hown.lt _ e).1; omega
        have ev := T3.ev
        have hlt3 := T3.lt
        have ev4 := T4.ev
        have hn3 : w.heap.size + 3 < w3.heap.size := by omega
        have h1c : ∀ u ∈ cellsE x, u.oneCell' = true := by
          intro u hu
          simp only [cellsE, List.mem_cons, List.not_mem_nil, or_false] at hu
          rcases hu with rfl | rfl | rfl | rfl | rfl | rfl <;> rfl
        have hnew := World.news_of_block (cs := #[.int .i64 x.kind, .int .i64 x.time, .int .i64 x.task, .int .i64 x.n, .int .i16 x.value, .int .i64 x.port]) (t := 26) (fr := (0, 0)) (heap_alloc_new (w3.alloc (.cells #[.int .i64 x.kind, .int .i64 x.time, .int .i64 x.task, .int .i64 x.n, .int .i16 x.value, .int .i64 x.port] 26)) _)
        clear T3 I3 K3 T4 I4 K4 HX hvx hfx hb4 hb5
        clear X4
        rw [World.size_alloc] at hnew
        gi_wp2_with (gi_at_builtin; refine wpListIn_append_own _ rfl _ _ 22 rfl (w.heap.size + 8) 26 i26 _ 6 48 Tryd.underlying22 hi hz0 hz1 hz2 rfl (by decide) v le.length (flat le) rfl hown ⟨w3.heap.size + 1, 0, none⟩ 1 1 (cellsE x) rfl rfl hnew h1c (by unfold maxLen; omega) (by omega) (by omega) ?_; intro v' w5 hown1 hgrow _; obtain ⟨gg, cap2, rfl⟩ := ownsRow_succ hown1; have s0 := (hgrow.cell_far _ (by simp only; omega) (Ne.symm hne)).trans a0; have s1 := (hgrow.frozen_far _ (by simp only; omega) (Ne.symm hne)).trans a1)
        have hlen : (le ++ [x]).length = le.length + 1 := by simp
        have T5 := HT.out.grow hgrow (l' := le ++ [x]) (v' := .slice (some ⟨gg, 0, none⟩) (le.length + 1) cap2) (by rw [hlen, flat_snoc]; exact hown1)
        have I5 := (HI.out.grow hgrow hlt (fun j e => (hown.lt _ e).1) (by omega) (by omega) (by omega)).far (a := w.heap.size + 3) (by omega) (by omega) (by omega) (.slice (some ⟨gg, 0, none⟩) (le.length + 1) cap2)
        exact ⟨(HK.out.trans (keeps_grow hown hgrow)).trans (KeepsOthers.setCell _ _ _), ⟨le ++ [x], _, by rw [txt_snoc, HP.out, HFX.out], HV.out.snoc HIX.out.1 HIX.out.2, by rw [hlen]; exact T5⟩, I5⟩
  case done =>
    rintro D W hD ⟨l, v, htx, hv, T⟩ hK
    have HTX := Lib.hid htx
    have HV := Lib.hid hv
    have HT := Lib.hid T
    have HK := Lib.hid hK
    obtain ⟨A, cap, rfl, -⟩ := Evs.of_own T.own
    obtain ⟨_, hlt, r0, r1, r2, ev, n, f0, f1, f2, f3, f4, _⟩ := T
    clear htx hv hK htl hT0 hI0
    gi_wp2
    have hk5 := (((KeepsOthers.setCell W ⟨w.heap.size, 0, none⟩ (.slice A l.length cap)).trans (KeepsOthers.setCell _ ⟨w.heap.size + 1, 0, none⟩ (.int .i64 0))).trans (KeepsOthers.setCell _ ⟨w.heap.size + 2, 0, none⟩ (.int .i64 0))).same D _ HK.out rfl
    refine ⟨by simp, .inl ⟨_, _, rfl, run_takeDeferred hk5, ?_⟩⟩
    have ht := Turn.putObj (.deferred none) (show w.heap.size + 8 ≤ D by rw [hsz] at hD; exact hD) hk5 rfl
    have own5 := owns_set (owns_set (owns_set HT.out.own (p := ⟨w.heap.size, 0, none⟩) (by simp only; omega) (.slice A l.length cap)) (p := ⟨w.heap.size + 1, 0, none⟩) (by simp only; omega) (.int .i64 0)) (p := ⟨w.heap.size + 2, 0, none⟩) (by simp only; omega) (.int .i64 0)
    have c0 : (((W.setCell ⟨w.heap.size, 0, none⟩ (.slice A l.length cap)).setCell ⟨w.heap.size + 1, 0, none⟩ (.int .i64 0)).setCell ⟨w.heap.size + 2, 0, none⟩ (.int .i64 0)).cell? ⟨w.heap.size, 0, none⟩ = some (.slice A l.length cap) := by go_simp
    have c1 : (((W.setCell ⟨w.heap.size, 0, none⟩ (.slice A l.length cap)).setCell ⟨w.heap.size + 1, 0, none⟩ (.int .i64 0)).setCell ⟨w.heap.size + 2, 0, none⟩ (.int .i64 0)).cell? ⟨w.heap.size + 1, 0, none⟩ = some (.int .i64 0) := by go_simp
    have c2 : (((W.setCell ⟨w.heap.size, 0, none⟩ (.slice A l.length cap)).setCell ⟨w.heap.size + 1, 0, none⟩ (.int .i64 0)).setCell ⟨w.heap.size + 2, 0, none⟩ (.int .i64 0)).cell? ⟨w.heap.size + 2, 0, none⟩ = some (.int .i64 0) := by go_simp
    have hb5 := ((HT.out.below.setCell (p := ⟨w.heap.size, 0, none⟩) (Nat.le_refl _) (.slice A l.length cap)).setCell (p := ⟨w.heap.size + 1, 0, none⟩) (by simp only; omega) (.int .i64 0)).setCell (p := ⟨w.heap.size + 2, 0, none⟩) (by simp only; omega) (.int .i64 0)
    clear hk5 r0 r1 r2 ev n f0 f1 f2 f3 f4 hlt
    generalize ((W.setCell ⟨w.heap.size, 0, none⟩ (.slice A l.length cap)).setCell ⟨w.heap.size + 1, 0, none⟩ (.int .i64 0)).setCell ⟨w.heap.size + 2, 0, none⟩ (.int .i64 0) = W5 at *
    replace c0 := ht.cell c0
    replace c1 := ht.cell c1
    replace c2 := ht.cell c2
    obtain ⟨A', cap', he, hevs⟩ := Evs.of_own (ht.owns own5)
    have hb6 := hb5.trans (ht.below.mono (by omega))
    generalize W5.putObj D (.deferred none) = W6 at *
    cases he
    exact ⟨.tuple #[.slice A l.length cap, .int .i64 0, .int .i64 0], by simp [results, Tryd.results15, go_sem, c0, c1, c2], l, [], by rw [List.append_nil]; exact HTX.out, HV.out, .inl ⟨rfl, A, cap, rfl, hevs⟩, hb6⟩
  case stop =>
    rintro D c W hD (⟨rfl, l, v, m, htx, hv, T⟩ | ⟨rfl, l, rest, htx, hv, hne, hst, hb, hlt, c0, c1, c2⟩) hK
    · have HTX := Lib.hid htx
      have HV := Lib.hid hv
      have HT := Lib.hid T
      have HK := Lib.hid hK
      obtain ⟨A, cap, rfl, -⟩ := Evs.of_own T.own
      obtain ⟨_, hlt, r0, r1, r2, ev, n, f0, f1, f2, f3, f4, _⟩ := T
      clear htx hv hK htl hT0 hI0
      gi_wp2
      have hk5 := (((KeepsOthers.setCell W ⟨w.heap.size, 0, none⟩ (.slice A l.length cap)).trans (KeepsOthers.setCell _ ⟨w.heap.size + 1, 0, none⟩ (.int .i64 0))).trans (KeepsOthers.setCell _ ⟨w.heap.size + 2, 0, none⟩ (.int .i64 0))).same D _ HK.out rfl
      refine ⟨by simp, .inl ⟨_, _, rfl, run_takeDeferred hk5, ?_⟩⟩
      have ht := Turn.putObj (.deferred none) (show w.heap.size + 8 ≤ D by rw [hsz] at hD; exact hD) hk5 rfl
      have own5 := owns_set (owns_set (owns_set HT.out.own (p := ⟨w.heap.size, 0, none⟩) (by simp only; omega) (.slice A l.length cap)) (p := ⟨w.heap.size + 1, 0, none⟩) (by simp only; omega) (.int .i64 0)) (p := ⟨w.heap.size + 2, 0, none⟩) (by simp only; omega) (.int .i64 0)
      have c0 : (((W.setCell ⟨w.heap.size, 0, none⟩ (.slice A l.length cap)).setCell ⟨w.heap.size + 1, 0, none⟩ (.int .i64 0)).setCell ⟨w.heap.size + 2, 0, none⟩ (.int .i64 0)).cell? ⟨w.heap.size, 0, none⟩ = some (.slice A l.length cap) := by go_simp
      have c1 : (((W.setCell ⟨w.heap.size, 0, none⟩ (.slice A l.length cap)).setCell ⟨w.heap.size + 1, 0, none⟩ (.int .i64 0)).setCell ⟨w.heap.size + 2, 0, none⟩ (.int .i64 0)).cell? ⟨w.heap.size + 1, 0, none⟩ = some (.int .i64 0) := by go_simp
      have c2 : (((W.setCell ⟨w.heap.size, 0, none⟩ (.slice A l.length cap)).setCell ⟨w.heap.size + 1, 0, none⟩ (.int .i64 0)).setCell ⟨w.heap.size + 2, 0, none⟩ (.int .i64 0)).cell? ⟨w.heap.size + 2, 0, none⟩ = some (.int .i64 0) := by go_simp
      have hb5 := ((HT.out.below.setCell (p := ⟨w.heap.size, 0, none⟩) (Nat.le_refl _) (.slice A l.length cap)).setCell (p := ⟨w.heap.size + 1, 0, none⟩) (by simp only; omega) (.int .i64 0)).setCell (p := ⟨w.heap.size + 2, 0, none⟩) (by simp only; omega) (.int .i64 0)
      clear hk5 r0 r1 r2 ev n f0 f1 f2 f3 f4 hlt
      generalize ((W.setCell ⟨w.heap.size, 0, none⟩ (.slice A l.length cap)).setCell ⟨w.heap.size + 1, 0, none⟩ (.int .i64 0)).setCell ⟨w.heap.size + 2, 0, none⟩ (.int .i64 0) = W5 at *
      replace c0 := ht.cell c0
      replace c1 := ht.cell c1
      replace c2 := ht.cell c2
      obtain ⟨A', cap', he, hevs⟩ := Evs.of_own (ht.owns own5)
      have hb6 := hb5.trans (ht.below.mono (by omega))
      generalize W5.putObj D (.deferred none) = W6 at *
      cases he
      exact ⟨.tuple #[.slice A l.length cap, .int .i64 0, .int .i64 0], by simp [results, Tryd.results15, go_sem, c0, c1, c2], l, [], by rw [List.append_nil]; exact HTX.out, HV.out, .inl ⟨rfl, A, cap, rfl, hevs⟩, hb6⟩
    · clear hT0 hI0 htl
      gi_wp2
      refine ⟨by simp, .inl ⟨_, _, rfl, run_takeDeferred hK, ?_⟩⟩
      have ht := Turn.putObj (.deferred none) (show w.heap.size + 8 ≤ D by rw [hsz] at hD; exact hD) hK rfl
      replace c0 := ht.cell c0
      replace c1 := ht.cell c1
      replace c2 := ht.cell c2
      have hb6 := hb.trans (ht.below.mono (by omega))
      generalize W.putObj D (.deferred none) = W6 at *
      exact ⟨.tuple #[.slice none 0 0, .int .i64 (l.length + 1), .int .i64 2], by simp [results, Tryd.results15, go_sem, c0, c1, c2], l, rest, htx, hv, .inr ⟨hne, hst, rfl⟩, hb6⟩
end Go.Proofs.YtdfconiahfdhbaaDoor
