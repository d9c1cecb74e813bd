/-
  first: the first schedules that All yields.
-/
import Derived.Test.YtabfjiapoafgaaaDoorRow
namespace Go.Proofs.YtabfjiapoafgaaaDoor
open Go.RowKit Go.Shelf
set_option linter.unusedVariables false
attribute [local go_sem] Oper.semAt_some

theorem all_c (f m o : Int) (w : World) : Calls Tryd.prog 47 #[.int .i64 f, .int .i64 m, .int .i64 o] w fun e w' => e = .returned (.func (.func 61) #[] #[.pointer (some ⟨w.heap.size, 0, none⟩), .pointer (some ⟨w.heap.size + 1, 0, none⟩), .pointer (some ⟨w.heap.size + 2, 0, none⟩)]) ∧ w' = ((w.alloc (.cells #[.int .i64 f] 3)).alloc (.cells #[.int .i64 m] 3)).alloc (.cells #[.int .i64 o] 2) := by
  go_enter Tryd.func47, Tryd.ntmps47
  go_wp2_with fail
  go_ret
  exact ⟨by simp, rfl⟩
theorem keeps_grow {base : Nat} {e : TypeId} {size n : Nat} {v : Value} {xs : List Value} {W W' : World} (ho : W.ownsRow base e size v n xs) (hg : W.grownBy W' v.ownBlock) : KeepsOthers W W' := by
  refine KeepsOthers.of_grownBy hg fun j o ej hj => ?_
  rcases ho.2 with ⟨rfl, _⟩ | ⟨g, cap, cur, rfl, _, hgb, _⟩
  · simp [Value.ownBlock] at ej
  · obtain rfl : g = j := by simpa [Value.ownBlock] using ej
    rw [hgb] at hj; cases hj; rfl
/-- first's cells, and the schedules so far -/
structure FT (w : World) (f m o lim : Int) (v : Value) (vs : List Value) (Ls : List (List (Int × Int))) (X : Nat) (W : World) : Prop where
  below : Below w.heap.size w W
  lt : w.heap.size + 5 ≤ W.heap.size
  bl : W.cell? ⟨w.heap.size, 0, none⟩ = some (.int .i64 lim)
  out : W.cell? ⟨w.heap.size + 1, 0, none⟩ = some v
  fo : W.frozen? ⟨w.heap.size + 1, 0, none⟩ = false
  c0 : W.cell? ⟨w.heap.size + 2, 0, none⟩ = some (.int .i64 f)
  c1 : W.cell? ⟨w.heap.size + 3, 0, none⟩ = some (.int .i64 m)
  c2 : W.cell? ⟨w.heap.size + 4, 0, none⟩ = some (.int .i64 o)
  own : W.ownsRow (w.heap.size + 5) 22 1 v vs.length vs
  fin : Fin2 (w.heap.size + 5) vs Ls W.heap.size W
  xge : w.heap.size + 5 ≤ X
  nv : v.ownBlock ≠ some X
  nx : ∀ x ∈ vs, x.ownBlock ≠ some X
section
variable {w W W' : World} {f m o lim : Int} {v : Value} {vs : List Value} {Ls : List (List (Int × Int))} {X : Nat}
theorem FT.turn (h : FT w f m o lim v vs Ls X W) (ht : Turn (w.heap.size + 5) W W') : FT w f m o lim v vs Ls X W' :=
  ⟨h.below.trans (ht.below.mono (by omega)), Nat.le_trans h.lt ht.below.size, ht.cell h.bl, ht.cell h.out, (ht.frozen h.out).trans h.fo, ht.cell h.c0, ht.cell h.c1, ht.cell h.c2, ht.owns h.own, ⟨h.fin.len, fun j x r h1 h2 => ht.owns (h.fin.row j x r h1 h2), fun x hx g hg => Nat.lt_of_lt_of_le (h.fin.lt x hx g hg) ht.below.size⟩, h.xge, h.nv, h.nx⟩
theorem FT.on (h : FT w f m o lim v vs Ls X W) (k : On X W W') : FT w f m o lim v vs Ls X W' := by
  have hl := h.lt
  have hx := h.xge
  have hb : ∀ a, a < w.heap.size + 5 → W'.heap[a]? = W.heap[a]? := fun a ha => k.block a (by omega) (fun e => by have := Option.some.inj e; omega)
  have hc : ∀ a i, a < w.heap.size + 5 → W'.cell? ⟨a, i, none⟩ = W.cell? ⟨a, i, none⟩ := fun a i ha => World.cell?_of_block (hb a ha)
  have hf : ∀ a i, a < w.heap.size + 5 → W'.frozen? ⟨a, i, none⟩ = W.frozen? ⟨a, i, none⟩ := fun a i ha => World.frozen?_of_block (hb a ha)
  exact ⟨k.below h.below (by omega) (by omega), Nat.le_trans hl k.size, (hc _ _ (by omega)).trans h.bl, (hc _ _ (by omega)).trans h.out, (hf _ _ (by omega)).trans h.fo, (hc _ _ (by omega)).trans h.c0, (hc _ _ (by omega)).trans h.c1, (hc _ _ (by omega)).trans h.c2, h.own.kept k (.inr h.nv), (h.fin.grown k (fun x hx g hg e => h.nx x hx (by rw [hg, ← e]))).mono k.size, hx, h.nv, h.nx⟩
theorem FT.fresh (h : FT w f m o lim v vs Ls X W) {X' : Nat} (hX : W.heap.size ≤ X') : FT w f m o lim v vs Ls X' W :=
  ⟨h.below, h.lt, h.bl, h.out, h.fo, h.c0, h.c1, h.c2, h.own, h.fin, by have := h.lt; omega, fun e => by have := (h.own.lt _ e).2; omega, fun x hx e => by have := h.fin.lt x hx _ e; omega⟩
end
theorem FT.start (w : World) (f m o lim : Int) (X : Nat) (hX : w.heap.size + 5 ≤ X) : FT w f m o lim (.slice none 0 0) [] [] X (((((w.alloc (.cells #[.int .i64 lim] 3)).alloc (.cells #[.slice none 0 0] 43)).alloc (.cells #[.int .i64 f] 3)).alloc (.cells #[.int .i64 m] 3)).alloc (.cells #[.int .i64 o] 2)) := by
  refine ⟨bt (bt (bt (bt (ba _ _) (ba _ _)) (ba _ _)) (ba _ _)) (ba _ _), by simp, ?_, ?_, ?_, ?_, ?_, ?_, World.ownsRow_nil _ _ _ _, Fin2.nil _ _ _, hX, by simp [Value.ownBlock], fun x h => (by cases h)⟩
  all_goals go_simp
/-- a schedule more -/
theorem FT.push {w W W5 : World} {f m o lim : Int} {v : Value} {vs : List Value} {Ls : List (List (Int × Int))} {X B : Nat} {u v' : Value} {r : List (Int × Int)} (h : FT w f m o lim v vs Ls X W) (hX : X < B) (hB : B ≤ W.heap.size) (hu : W.ownsRow B 38 2 u r.length (flat r))
    (hg : (W.alloc (.cells #[u] 22)).grownBy W5 v.ownBlock) (ho : W5.ownsRow (w.heap.size + 5) 22 1 v' (vs.length + 1) (vs ++ [u])) {cs : Array Value} (hxo : W.heap[X]? = some (.cells cs 38 (0, 0))) : FT w f m o lim v' (vs ++ [u]) (Ls ++ [r]) X (W5.setCell ⟨w.heap.size + 1, 0, none⟩ v') := by
  have hl := h.lt
  have hx := h.xge
  have hgl : W.grownBy W5 v.ownBlock := ⟨hg.os, hg.tape, hg.output, Nat.le_trans (by simp) hg.size, fun k hk hn => (hg.block k (by simp; omega) hn).trans (Below.heap_alloc W _ k hk)⟩
  have hn : ∀ a, a < w.heap.size + 5 → some a ≠ v.ownBlock := fun a ha e => by have := (h.own.lt _ e.symm).1; omega
  have c : ∀ a, a < w.heap.size + 5 → W5.cell? ⟨a, 0, none⟩ = W.cell? ⟨a, 0, none⟩ := fun a ha => hgl.cell_far ⟨a, 0, none⟩ (by simp only; omega) (hn a ha)
  have fz : ∀ a, a < w.heap.size + 5 → W5.frozen? ⟨a, 0, none⟩ = W.frozen? ⟨a, 0, none⟩ := fun a ha => hgl.frozen_far ⟨a, 0, none⟩ (by simp only; omega) (hn a ha)
  have hb : Below w.heap.size w W5 := h.below.grown hgl (by omega) (fun j e => by have := (h.own.lt _ e).1; omega)
  have hu5 : W5.ownsRow B 38 2 u r.length (flat r) := hu.kept hgl (by
    cases q : u.ownBlock with
    | none => exact .inl rfl
    | some g => exact .inr (fun e => owns_ne hu h.own (by decide) q e.symm))
  have hf5 : Fin2 (w.heap.size + 5) vs Ls W.heap.size W5 := h.fin.grown hgl (fun x hx g hgx e => by
    obtain ⟨j, r', _, _, hr⟩ := h.fin.at_ hx
    exact owns_ne hr h.own (by decide) hgx e)
  have hset : ∀ {e s n : Nat} {z : Value} {xs : List Value}, W5.ownsRow (w.heap.size + 5) e s z n xs → (W5.setCell ⟨w.heap.size + 1, 0, none⟩ v').ownsRow (w.heap.size + 5) e s z n xs := fun h => owns_set h (by simp only; omega) _
  refine ⟨hb.setCell (by simp only; omega) _, by simpa using Nat.le_trans hl hgl.size, ((far2 W5 (by omega) _ _ _).trans (c _ (by omega))).trans h.bl, World.cell?_setCell_same _ _ _ ((c _ (by omega)).trans h.out), by simpa using (fz _ (by omega)).trans h.fo, ((far2 W5 (by omega) _ _ _).trans (c _ (by omega))).trans h.c0, ((far2 W5 (by omega) _ _ _).trans (c _ (by omega))).trans h.c1, ((far2 W5 (by omega) _ _ _).trans (c _ (by omega))).trans h.c2, by rw [List.length_append, List.length_singleton]; exact hset ho, ?_, hx, ?_, ?_⟩
  · have h7 := (hf5.mono hgl.size).snoc (owns_mono hu5 (by omega)) (Nat.le_refl _)
    exact ⟨h7.len, fun j x r h1 h2 => hset (h7.row j x r h1 h2), fun x hx g hg => by simpa using h7.lt x hx g hg⟩
  · intro e
    rcases ho.2 with ⟨rfl, _⟩ | ⟨g, cap, cur, rfl, _, hh, _⟩
    · simp [Value.ownBlock] at e
    · obtain rfl : g = X := by simpa [Value.ownBlock] using e
      have hk := hgl.block g (Array.getElem?_eq_some_iff.1 hxo).1 (fun e => h.nv e.symm)
      rw [hh, hxo] at hk
      cases hk
  · intro x hx e
    rcases List.mem_append.1 hx with hx | hx
    · exact h.nx x hx e
    · rw [List.mem_singleton.1 hx] at e
      have := (hu.lt _ e).1
      omega
/-- how far first has come -/
def FJ (w : World) (f m : Nat) (o : Int) (lim : Nat) (k X : Nat) (W : World) : Prop := k < lim ∧ ∃ v vs Ls, FT w f m o lim v vs Ls X W ∧ FirstL m o k Ls
structure Sg where
  k : Nat
  X : Nat
  B : Nat
  r : List (Int × Int)
  u : Value
  cs : Array Value
/-- a schedule comes -/
structure FS (w : World) (f m : Nat) (o : Int) (lim : Nat) (s : Sg) (W : World) : Prop where
  k : s.k < totalN f m
  sch : Sched m o s.k s.r
  j : FJ w f m o lim s.k s.X W
  x : s.X < s.B
  b : s.B ≤ W.heap.size
  own : W.ownsRow s.B 38 2 s.u s.r.length (flat s.r)
  ob : W.heap[s.X]? = some (.cells s.cs 38 (0, 0))
theorem FJ.turn {w W W' : World} {f m lim k X : Nat} {o : Int} (h : FJ w f m o lim k X W) (ht : Turn (w.heap.size + 5) W W') : FJ w f m o lim k X W' := by
  obtain ⟨h1, v, vs, Ls, h2, h3⟩ := h
  exact ⟨h1, v, vs, Ls, h2.turn ht, h3⟩
theorem FJ.on {w W W' : World} {f m lim k X : Nat} {o : Int} (h : FJ w f m o lim k X W) (k2 : On X W W') : FJ w f m o lim k X W' := by
  obtain ⟨h1, v, vs, Ls, h2, h3⟩ := h
  exact ⟨h1, v, vs, Ls, h2.on k2, h3⟩
theorem FJ.fresh {w W : World} {f m lim k X X' : Nat} {o : Int} (h : FJ w f m o lim k X W) (hX : W.heap.size ≤ X') : FJ w f m o lim k X' W := by
  obtain ⟨h1, v, vs, Ls, h2, h3⟩ := h
  exact ⟨h1, v, vs, Ls, h2.fresh hX, h3⟩
/-- what first hands back -/
def FirstO (w : World) (K m : Nat) (o : Int) (e : Ending) (w' : World) : Prop := ∃ v vs Ls, e = .returned (.tuple #[v, .bool true]) ∧ w'.ownsRow w.heap.size 22 1 v vs.length vs ∧ Fin2 w.heap.size vs Ls w'.heap.size w' ∧ FirstL m o K Ls ∧ Below w.heap.size w w'
def FX (w : World) (f m : Nat) (o : Int) (lim : Nat) (c : Code) (W : World) : Prop := c = .exit 0 ∧ ∃ v vs Ls X, FT w f m o lim v vs Ls X W ∧ FirstL m o lim Ls ∧ lim ≤ totalN f m
theorem eql_func_nil (w : World) (g : Fn) (c l : Array Value) : (binOp .eql 84 (.func g c l) .nilFunc).run Tryd.prog w = .ok (.bool false) w := by
  have h : ∀ d : Nat, (Op.equalIn (d + 1) 84 (.func g c l) .nilFunc).run Tryd.prog w = .ok false w := fun d => by
    simp [Op.equalIn, run_underlying Tryd.underlying84]
  simp only [binOp]
  simp [Op.equal, Op.maxDepth, h 9999]
theorem FS.turn {w W W' : World} {f m lim : Nat} {o : Int} {s : Sg} (h : FS w f m o lim s W) (ht : Turn (w.heap.size + 5) W W') : FS w f m o lim s W' :=
  ⟨h.k, h.sch, h.j.turn ht, h.x, Nat.le_trans h.b ht.below.size, ht.owns h.own, ht.cells _ _ _ _ h.ob⟩
theorem FX.turn {w W W' : World} {f m lim : Nat} {o : Int} {c : Code} (h : FX w f m o lim c W) (ht : Turn (w.heap.size + 5) W W') : FX w f m o lim c W' := by
  obtain ⟨h0, v, vs, Ls, X, h2, h3⟩ := h
  exact ⟨h0, v, vs, Ls, X, h2.turn ht, h3⟩
/-- the loop's record lies apart -/
theorem Rec.on {L D X : Nat} {r : Obj} {W W' : World} (h : Rec L D r W) (k : On X W W') (hL : L ≠ X) (hD : D ≠ X) : Rec L D r W' :=
  ⟨(k.block L (Array.getElem?_eq_some_iff.1 h.l).1 (fun e => hL (Option.some.inj e))).trans h.l, (k.block D (Array.getElem?_eq_some_iff.1 h.d).1 (fun e => hD (Option.some.inj e))).trans h.d, h.rc⟩
set_option maxRecDepth 100000 in
set_option maxHeartbeats 4000000 in
theorem first_c (f m : Nat) (o : Int) (lim : Nat) (hf : f ≤ 200) (hlim : 1 ≤ lim) (hl2 : lim ≤ 1000) (hok : okA f m o = true) (w : World) : Calls Tryd.prog 24 #[.int .i64 f, .int .i64 m, .int .i64 o, .int .i64 lim] w (FirstO w (min lim (totalN f m)) m o) := by
  obtain ⟨hm, ho⟩ := okA_t hok
  obtain ⟨i22, hi, hz0, hz1, hz2⟩ := info_parts info22
  have hlI : (lim : Int) ≤ 1000 := by omega
  refine (callsIn_wide (n := 3)).1 ?_
  refine callsIn_of_wp_marks Tryd.func24 rfl trivial ?_ rfl
  have hfn := fun W c l => eql_func_nil W (.func 61) c l
  simp only [Tryd.ntmps24, List.size_toArray, List.length_cons, List.length_nil, Nat.reduceAdd, Nat.reduceSub, Array.replicate_succ, Array.replicate_zero, List.push_toArray, List.append_toArray, List.nil_append, List.cons_append]
  gi_wp2_with (refine ⟨trivial, ?_⟩; gi_at_call 47; refine (callsIn_wide.2 (all_c _ _ _ _)).mono ?_; rintro e w2 ⟨rfl, rfl⟩)
  simp only [Nat.add_assoc, Nat.reduceAdd]
  have hT0 := FT.start w f m o lim (w.heap.size + 5) (Nat.le_refl _)
  have hsz : (((((w.alloc (.cells #[.int .i64 lim] 3)).alloc (.cells #[.slice none 0 0] 43)).alloc (.cells #[.int .i64 f] 3)).alloc (.cells #[.int .i64 m] 3)).alloc (.cells #[.int .i64 o] 2)).heap.size = w.heap.size + 5 := by simp
  generalize ((((w.alloc (.cells #[.int .i64 lim] 3)).alloc (.cells #[.slice none 0 0] 43)).alloc (.cells #[.int .i64 f] 3)).alloc (.cells #[.int .i64 m] 3)).alloc (.cells #[.int .i64 o] 2) = W0 at *
  refine range_direct (σ := Sg) rfl (by omega) (gf := 61) (lb := #[.pointer (some ⟨w.heap.size + 2, 0, none⟩), .pointer (some ⟨w.heap.size + 3, 0, none⟩), .pointer (some ⟨w.heap.size + 4, 0, none⟩)]) rfl trivial (enters_of Tryd.func61 (by kernel_rfl) rfl) (fun s => #[s.u]) (fun _ => rfl)
    (fun s W => FS w f m o lim s W)
    (fun s W => FJ w f m o lim (s.k + 1) s.X W ∧ W.heap[s.X]? = some (.cells s.cs 38 (0, 0)))
    (FX w f m o lim) (fun W => ∃ X, FJ w f m o lim (totalN f m) X W)
    (fun s W W' ht h => by rw [hsz] at ht; exact h.turn ht)
    (fun s W W' ht h => by rw [hsz] at ht; exact ⟨h.1.turn ht, ht.cells _ _ _ _ h.2⟩)
    (fun c W W' ht h => by rw [hsz] at ht; exact h.turn ht)
    (fun W W' ht h => by rw [hsz] at ht; obtain ⟨X, h⟩ := h; exact ⟨X, h.turn ht⟩)
    (fun s => { tmps := #[.int .i64 f, .int .i64 m, .int .i64 o, .int .i64 lim, undef, undef, undef, .pointer (some ⟨w.heap.size, 0, none⟩), .slice none 0 0, .bool false, .pointer (some ⟨w.heap.size + 1, 0, none⟩), (.func (.func 61) #[] #[.pointer (some ⟨w.heap.size + 2, 0, none⟩), .pointer (some ⟨w.heap.size + 3, 0, none⟩), .pointer (some ⟨w.heap.size + 4, 0, none⟩)]), s.u, .int .i64 f, .int .i64 m, .int .i64 o, (.func (.func 61) #[] #[.pointer (some ⟨w.heap.size + 2, 0, none⟩), .pointer (some ⟨w.heap.size + 3, 0, none⟩), .pointer (some ⟨w.heap.size + 4, 0, none⟩)]), (.func (.func 61) #[] #[.pointer (some ⟨w.heap.size + 2, 0, none⟩), .pointer (some ⟨w.heap.size + 3, 0, none⟩), .pointer (some ⟨w.heap.size + 4, 0, none⟩)]), .bool false, (.func (.func 61) #[] #[.pointer (some ⟨w.heap.size + 2, 0, none⟩), .pointer (some ⟨w.heap.size + 3, 0, none⟩), .pointer (some ⟨w.heap.size + 4, 0, none⟩)]), s.u, undef, undef, undef, undef, undef, undef, undef, undef, undef], defers := [] }) ?assign ?body ?iter ?done ?stop
  case assign =>
    intro l s W K hK
    gi_wp2
    exact hK
  case iter =>
    intro L D rr W1 Lv ht hR hY
    rw [hsz] at ht
    refine (iter61 (by omega) L (w.heap.size + 2) (w.heap.size + 3) (w.heap.size + 4) f m o hf hm ho (fun k X W => FJ w f m o lim k X W ∧ Rec L D rr W ∧ L ≠ X ∧ D ≠ X) Lv ?_ ?_ ?_ ?_ W1 W1.heap.size ?_).mono ?_
    · rintro k X W ⟨⟨_, v, vs, Ls, h2, _⟩, _⟩
      exact ⟨h2.c0, h2.c1, h2.c2⟩
    · rintro k X W W' ⟨h1, h2, h3, h4⟩ hon
      exact ⟨h1.on hon, h2.on hon h3 h4, h3, h4⟩
    · rintro k X X' W ⟨h1, h2, h3, h4⟩ hX
      have a1 := (Array.getElem?_eq_some_iff.1 h2.l).1
      have a2 := (Array.getElem?_eq_some_iff.1 h2.d).1
      exact ⟨h1.fresh hX, h2, by omega, by omega⟩
    · rintro k X r B u W hk hs hr ⟨h1, h2, h3, h4⟩ hx hb hown ⟨cs, hob⟩
      refine (hY ⟨k, X, B, r, u, cs⟩ W ⟨hk, hs, h1, hx, hb, hown, hob⟩ h2).mono fun e W' h => ?_
      rcases h with ⟨he, ⟨hn1, hn2⟩, hr'⟩ | ⟨he, hl⟩
      · exact .inl ⟨he, ⟨hn1, hr', h3, h4⟩, hn2.trans hob.symm⟩
      · exact .inr ⟨he, hl⟩
    · have a1 := (Array.getElem?_eq_some_iff.1 hR.l).1
      have a2 := (Array.getElem?_eq_some_iff.1 hR.d).1
      exact ⟨⟨by omega, _, _, _, (hT0.turn ht).fresh (Nat.le_refl _), FirstL.nil m o⟩, hR, by omega, by omega⟩
    · rintro e W' ⟨he, ⟨X, h⟩ | h⟩
      · exact ⟨he, .inl ⟨⟨X, h.1⟩, h.2.1⟩⟩
      · exact ⟨he, .inr h⟩
  case body =>
    rintro l ⟨k, X, B, r, u, cs⟩ W ⟨hk, hs, ⟨hkl, v, vs, Ls, T, hfl⟩, hx, hb, hown, hob⟩
    simp only at hk hs hkl T hfl hx hb hown hob
    have hvl : vs.length = k := by rw [T.fin.len, hfl.len]
    obtain ⟨A, ucap, rfl, -, -⟩ := Prs.of_own hown
    have HK := Lib.hid (And.intro hk hs)
    have HT := Lib.hid T
    have HFL := Lib.hid hfl
    have HOW := Lib.hid hown
    have HOB := Lib.hid hob
    have HVL := Lib.hid hvl
    obtain ⟨_, hlt, bl, b1, fo, _, _, _, own, _, hxge, hnv, _⟩ := T
    have hown2 := own.alloc (.cells #[.slice A r.length ucap] 22)
    have hnew : ∀ (j : Nat) z, [Value.slice A r.length ucap][j]? = some z → (W.alloc (.cells #[.slice A r.length ucap] 22)).cell? ((⟨W.heap.size, 0, none⟩ : Addr).add j) = some z := World.news_of_block (cs := #[.slice A r.length ucap]) (t := 22) (fr := (0, 0)) (heap_alloc_new W _)
    have h1c : ∀ z ∈ [Value.slice A r.length ucap], z.oneCell' = true := by
      intro z hz
      rw [List.mem_singleton.1 hz]
      rfl
    have hkI : (k : Int) + 1 ≤ 1000 := by omega
    have hne : v.ownBlock ≠ some (w.heap.size + 1) := fun e => by have := (own.lt _ e).1; omega
    have hne0 : v.ownBlock ≠ some w.heap.size := fun e => by have := (own.lt _ e).1; omega
    have a0 := ((bcell (ba W (.cells #[.slice A r.length ucap] 22))).1 (w.heap.size + 1) 0 (by omega)).trans b1
    have a1 := ((bcell (ba W (.cells #[.slice A r.length ucap] 22))).2 (w.heap.size + 1) 0 (by omega)).trans fo
    have a2 := ((bcell (ba W (.cells #[.slice A r.length ucap] 22))).1 w.heap.size 0 (by omega)).trans bl
    rw [hvl] at hown2
    clear hk hs hfl hown hob hT0 own hvl
    gi_wp2_with (gi_at_builtin; refine wpListIn_append_own _ rfl _ _ 43 rfl (w.heap.size + 5) 22 i22 _ 1 24 Tryd.underlying43 hi hz0 hz1 hz2 rfl (by decide) v k vs rfl hown2 ⟨W.heap.size, 0, none⟩ 1 1 [.slice A r.length ucap] rfl rfl hnew h1c (by unfold maxLen; omega) (by omega) (by simp; omega) ?_; intro v' w5 hown5 hgrow _; obtain ⟨gg, cap2, rfl⟩ := ownsRow_succ hown5; have s0 := (hgrow.cell_far _ (by simp; omega) (Ne.symm hne)).trans a0; have s1 := (hgrow.frozen_far _ (by simp; omega) (Ne.symm hne)).trans a1; have s2 := (hgrow.cell_far _ (by simp; omega) (Ne.symm hne0)).trans a2)
    all_goals
      have hxW := (Array.getElem?_eq_some_iff.1 HOB.out).1
      have T5 := HT.out.push (v' := .slice (some ⟨gg, 0, none⟩) (k + 1) cap2) hx hb HOW.out hgrow (by rw [HVL.out]; exact hown5) HOB.out
      have hkp : (w5.setCell ⟨w.heap.size + 1, 0, none⟩ (.slice (some ⟨gg, 0, none⟩) (k + 1) cap2)).heap[X]? = some (.cells cs 38 (0, 0)) :=
        ((Below.heap_setCell w5 _ _ X (by show X ≠ w.heap.size + 1; omega)).trans (hgrow.block X (by simp; omega) (Ne.symm hnv))).trans ((Below.heap_alloc W _ X hxW).trans HOB.out)
      have hkeep := ((KeepsOthers.alloc W (.cells #[.slice A r.length ucap] 22)).trans (keeps_grow hown2 hgrow)).trans (KeepsOthers.setCell w5 ⟨w.heap.size + 1, 0, none⟩ (.slice (some ⟨gg, 0, none⟩) (k + 1) cap2))
      have hf5 := HFL.out.snoc HK.out.2
      first
        | exact ⟨hkeep, ⟨by omega, _, _, _, T5, hf5⟩, hkp⟩
        | (obtain rfl : lim = k + 1 := by omega
           exact ⟨hkeep, rfl, _, _, _, X, T5, hf5, HK.out.1⟩)
  case done =>
    rintro D W hD ⟨X, hkl, v, vs, Ls, T, hfl⟩ hK
    have HT := Lib.hid T
    have HK := Lib.hid hK
    have HFL := Lib.hid hfl
    obtain ⟨_, hlt, bl, b1, fo, _, _, _, own, _, hxge, hnv, _⟩ := T
    clear hK hT0 hfl own
    gi_wp2
    refine ⟨by simp, .inl ⟨_, _, rfl, run_takeDeferred HK.out, ?_⟩⟩
    have ht := Turn.putObj (.deferred none) (show w.heap.size + 5 ≤ D by rw [hsz] at hD; exact hD) HK.out rfl
    have T6 := HT.out.turn ht
    generalize W.putObj D (.deferred none) = W6 at *
    exact ⟨.tuple #[v, .bool true], by simp [results, Tryd.results24, go_sem], v, vs, Ls, rfl, owns_mono T6.own (by omega), ⟨T6.fin.len, fun j x r h1 h2 => owns_mono (T6.fin.row j x r h1 h2) (by omega), T6.fin.lt⟩, by rw [Nat.min_eq_right (by omega)]; exact HFL.out, T6.below⟩
  case stop =>
    rintro D c W hD ⟨rfl, v, vs, Ls, X, T, hfl, hle⟩ hK
    have HT := Lib.hid T
    have HK := Lib.hid hK
    have HFL := Lib.hid hfl
    obtain ⟨_, hlt, bl, b1, fo, _, _, _, own, _, hxge, hnv, _⟩ := T
    clear hK hT0 hfl own
    gi_wp2
    refine ⟨by simp, .inl ⟨_, _, rfl, run_takeDeferred HK.out, ?_⟩⟩
    have ht := Turn.putObj (.deferred none) (show w.heap.size + 5 ≤ D by rw [hsz] at hD; exact hD) HK.out rfl
    have T6 := HT.out.turn ht
    generalize W.putObj D (.deferred none) = W6 at *
    exact ⟨.tuple #[v, .bool true], by simp [results, Tryd.results24, go_sem], v, vs, Ls, rfl, owns_mono T6.own (by omega), ⟨T6.fin.len, fun j x r h1 h2 => owns_mono (T6.fin.row j x r h1 h2) (by omega), T6.fin.lt⟩, by rw [Nat.min_eq_left hle]; exact HFL.out, T6.below⟩
set_option maxRecDepth 100000 in
set_option maxHeartbeats 4000000 in
theorem first_no (f m o lim : Int) (hbad : okA f m o = false) (w : World) : Calls Tryd.prog 24 #[.int .i64 f, .int .i64 m, .int .i64 o, .int .i64 lim] w (FirstO w 0 m.toNat o) := by
  refine (callsIn_wide (n := 3)).1 ?_
  refine callsIn_of_wp_marks Tryd.func24 rfl trivial ?_ rfl
  have hfn := fun W c l => eql_func_nil W (.func 61) c l
  simp only [Tryd.ntmps24, List.size_toArray, List.length_cons, List.length_nil, Nat.reduceAdd, Nat.reduceSub, Array.replicate_succ, Array.replicate_zero, List.push_toArray, List.append_toArray, List.nil_append, List.cons_append]
  gi_wp2_with (refine ⟨trivial, ?_⟩; gi_at_call 47; refine (callsIn_wide.2 (all_c _ _ _ _)).mono ?_; rintro e w2 ⟨rfl, rfl⟩)
  simp only [Nat.add_assoc, Nat.reduceAdd]
  have hT0 := FT.start w f m o lim (w.heap.size + 5) (Nat.le_refl _)
  have hsz : (((((w.alloc (.cells #[.int .i64 lim] 3)).alloc (.cells #[.slice none 0 0] 43)).alloc (.cells #[.int .i64 f] 3)).alloc (.cells #[.int .i64 m] 3)).alloc (.cells #[.int .i64 o] 2)).heap.size = w.heap.size + 5 := by simp
  generalize ((((w.alloc (.cells #[.int .i64 lim] 3)).alloc (.cells #[.slice none 0 0] 43)).alloc (.cells #[.int .i64 f] 3)).alloc (.cells #[.int .i64 m] 3)).alloc (.cells #[.int .i64 o] 2) = W0 at *
  refine range_direct (σ := Unit) rfl (by omega) (gf := 61) (lb := #[.pointer (some ⟨w.heap.size + 2, 0, none⟩), .pointer (some ⟨w.heap.size + 3, 0, none⟩), .pointer (some ⟨w.heap.size + 4, 0, none⟩)]) rfl trivial (enters_of Tryd.func61 (by kernel_rfl) rfl) (fun s => #[undef]) (fun _ => rfl)
    (fun s W => False) (fun s W => False) (fun c W => False) (fun W => ∃ X, FT w f m o lim (.slice none 0 0) [] [] X W)
    (fun s W W' ht h => h) (fun s W W' ht h => h) (fun c W W' ht h => h)
    (fun W W' ht h => by rw [hsz] at ht; obtain ⟨X, h⟩ := h; exact ⟨X, h.turn ht⟩)
    (fun s => { tmps := #[.int .i64 f, .int .i64 m, .int .i64 o, .int .i64 lim, undef, undef, undef, .pointer (some ⟨w.heap.size, 0, none⟩), .slice none 0 0, .bool false, .pointer (some ⟨w.heap.size + 1, 0, none⟩), (.func (.func 61) #[] #[.pointer (some ⟨w.heap.size + 2, 0, none⟩), .pointer (some ⟨w.heap.size + 3, 0, none⟩), .pointer (some ⟨w.heap.size + 4, 0, none⟩)]), undef, .int .i64 f, .int .i64 m, .int .i64 o, (.func (.func 61) #[] #[.pointer (some ⟨w.heap.size + 2, 0, none⟩), .pointer (some ⟨w.heap.size + 3, 0, none⟩), .pointer (some ⟨w.heap.size + 4, 0, none⟩)]), (.func (.func 61) #[] #[.pointer (some ⟨w.heap.size + 2, 0, none⟩), .pointer (some ⟨w.heap.size + 3, 0, none⟩), .pointer (some ⟨w.heap.size + 4, 0, none⟩)]), .bool false, (.func (.func 61) #[] #[.pointer (some ⟨w.heap.size + 2, 0, none⟩), .pointer (some ⟨w.heap.size + 3, 0, none⟩), .pointer (some ⟨w.heap.size + 4, 0, none⟩)]), undef, undef, undef, undef, undef, undef, undef, undef, undef, undef], defers := [] }) ?assign ?body ?iter ?done ?stop
  case assign =>
    intro l s W K hK
    gi_wp2
    exact hK
  case iter =>
    intro L D rr W1 Lv ht hR hY
    rw [hsz] at ht
    have T1 := hT0.turn ht
    refine (iter61_no (by omega) L (w.heap.size + 2) (w.heap.size + 3) (w.heap.size + 4) f m o hbad W1 T1.c0 T1.c1 T1.c2).mono ?_
    rintro e W' ⟨he, hb⟩
    have hon := On.of_below (M := W1.heap.size) hb
    have a1 := (Array.getElem?_eq_some_iff.1 hR.l).1
    have a2 := (Array.getElem?_eq_some_iff.1 hR.d).1
    exact ⟨he, .inl ⟨⟨_, (T1.fresh (Nat.le_refl _)).on hon⟩, hR.on hon (by omega) (by omega)⟩⟩
  case body =>
    rintro l s W h
    exact h.elim
  case done =>
    rintro D W hD ⟨X, T⟩ hK
    have HT := Lib.hid T
    have HK := Lib.hid hK
    obtain ⟨_, hlt, bl, b1, fo, _, _, _, own, _, hxge, hnv, _⟩ := T
    clear hK hT0 own
    gi_wp2
    refine ⟨by simp, .inl ⟨_, _, rfl, run_takeDeferred HK.out, ?_⟩⟩
    have ht := Turn.putObj (.deferred none) (show w.heap.size + 5 ≤ D by rw [hsz] at hD; exact hD) HK.out rfl
    have T6 := HT.out.turn ht
    generalize W.putObj D (.deferred none) = W6 at *
    exact ⟨.tuple #[.slice none 0 0, .bool true], by simp [results, Tryd.results24, go_sem], .slice none 0 0, [], [], rfl, World.ownsRow_nil _ _ _ _, Fin2.nil _ _ _, FirstL.nil _ _, T6.below⟩
  case stop =>
    rintro D c W hD h hK
    exact h.elim
/-- first, whatever its arguments -/
theorem first_any (f m o : Int) (lim : Nat) (hf : f ≤ 200) (hlim : 1 ≤ lim) (hl2 : lim ≤ 1000) (w : World) : Calls Tryd.prog 24 #[.int .i64 f, .int .i64 m, .int .i64 o, .int .i64 lim] w (FirstO w (outN f m o lim) m.toNat o) := by
  cases h : okA f m o with
  | false =>
    unfold outN
    rw [h, if_neg (by decide)]
    exact first_no f m o lim h w
  | true =>
    have h0 := h
    unfold okA at h0
    rw [decide_eq_true_iff] at h0
    obtain ⟨f, rfl⟩ := Int.eq_ofNat_of_zero_le h0.1
    obtain ⟨m, rfl⟩ := Int.eq_ofNat_of_zero_le h0.2.1.1
    unfold outN
    rw [h, if_pos rfl]
    exact first_c f m o lim (by omega) hlim hl2 h w
end Go.Proofs.YtabfjiapoafgaaaDoor
