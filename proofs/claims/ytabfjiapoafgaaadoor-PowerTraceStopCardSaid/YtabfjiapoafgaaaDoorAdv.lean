/-
  advance: the next schedule of the same length.
-/
import Derived.Test.YtabfjiapoafgaaaDoorBwd
import Derived.Test.YtabfjiapoafgaaaDoorMet
import Derived.Test.YtabfjiapoafgaaaDoorSch
namespace Go.Proofs.YtabfjiapoafgaaaDoor
open Go.RowKit Go.Shelf
set_option linter.unusedVariables false
attribute [local go_sem] Oper.semAt_some

theorem owns_set' {base : Nat} {e : TypeId} {size : Nat} {v : Value} {n : Nat} {xs : List Value} {w : World} (h : w.ownsRow base e size v n xs) {p : Addr} (hp : v.ownBlock ≠ some p.block) (u : Value) : (w.setCell p u).ownsRow base e size v n xs := by
  obtain ⟨hl, h | ⟨g, cap, cur, hv, hg, hh, h1, h2, h3, h4⟩⟩ := h
  · exact ⟨hl, .inl h⟩
  · have hne : g ≠ p.block := fun q => hp (by rw [hv, ← q]; rfl)
    exact ⟨hl, .inr ⟨g, cap, cur, hv, hg, (Below.heap_setCell w p u g hne).trans hh, h1, h2, h3, h4⟩⟩
theorem On.setNew {M : Nat} {w W : World} (h : On M w W) {p : Addr} (hp : w.heap.size ≤ p.block) (v : Value) : On M w (W.setCell p v) :=
  ⟨((Below.refl 0 W).setCell (p := p) (Nat.zero_le _) v).os.trans h.os, ((Below.refl 0 W).setCell (p := p) (Nat.zero_le _) v).tape.trans h.tape, ((Below.refl 0 W).setCell (p := p) (Nat.zero_le _) v).output.trans h.output, by simpa using h.size, fun j hj hn => (Below.heap_setCell W p v j (by omega)).trans (h.block j hj hn)⟩
/-- energies as periods -/
def perL (o : Int) (es : List Nat) : List (Int × Int) := es.map fun (x : Nat) => ((x : Int), o)
theorem perL_len (o : Int) (es : List Nat) : (perL o es).length = es.length := by unfold perL; simp
/-- a schedule in a block of its own -/
def OX (X : Nat) (l : List (Int × Int)) (W : World) : Prop := W.ownsRow X 38 2 (.slice (some ⟨X, 0, none⟩) l.length l.length) l.length (flat l)
theorem flat_set (l : List (Int × Int)) (k : Nat) (x : Int × Int) (e : Int) (h : l[k]? = some x) : (flat l).set (k * 2) (.int .i64 e) = flat (l.set k (e, x.2)) := by
  induction l generalizing k with
  | nil => simp at h
  | cons y l ih =>
    cases k with
    | zero =>
      simp at h
      subst h
      rfl
    | succ k =>
      have := ih k (by simpa using h)
      rw [flat_cons, show (k + 1) * 2 = k * 2 + 1 + 1 from by omega, List.set_cons_succ, List.set_cons_succ, this, List.set_cons_succ, flat_cons]
theorem OX.set {X k : Nat} {l : List (Int × Int)} {W : World} {x : Int × Int} (h : OX X l W) (hx : l[k]? = some x) (e : Int) : OX X (l.set k (e, x.2)) (W.setCell ⟨X, k * 2, none⟩ (.int .i64 e)) := by
  have h1 := (World.ownsRow.stored h (k * 2) (.int .i64 e)).1
  rw [flat_set l k x e hx] at h1
  unfold OX
  rw [List.length_set]
  exact h1
theorem OX.cell {X k : Nat} {l : List (Int × Int)} {W : World} {x : Int × Int} (h : OX X l W) (hx : l[k]? = some x) : W.cell? ⟨X, k * 2, none⟩ = some (.int .i64 x.1) ∧ W.cell? ⟨X, k * 2 + 1, none⟩ = some (.int .i64 x.2) := by
  have hk := (List.getElem?_eq_some_iff.1 hx).1
  obtain ⟨e1, e2⟩ := flat_at l k x hx
  exact ⟨(World.ownsRow.cellAt h _ (by omega)).trans e1, (World.ownsRow.cellAt h _ (by omega)).trans e2⟩
theorem OX.frozen {X : Nat} {l : List (Int × Int)} {W : World} (h : OX X l W) (i : Nat) : W.frozen? ⟨X, i, none⟩ = false := World.ownsRow.frozenAt h i
theorem OX.next {X : Nat} {l : List (Int × Int)} {W W' : World} (h : OX X l W) (hb : Below W.heap.size W W') : OX X l W' := owns_below h hb
theorem OX.lt {X : Nat} {l : List (Int × Int)} {W : World} (h : OX X l W) : X < W.heap.size := (World.ownsRow.lt h X rfl).2
theorem OX.prs {X : Nat} {l : List (Int × Int)} {W : World} (h : OX X l W) : Prs W (some ⟨X, 0, none⟩) l := by
  obtain ⟨A, cap, e, -, C⟩ := Prs.of_own h
  cases e
  exact C
/-- advance's boxes, and the schedule -/
structure AT (w : World) (X m : Nat) (l : List (Int × Int)) (W : World) : Prop where
  on : On X w W
  lt : w.heap.size + 4 ≤ W.heap.size
  xlt : X < w.heap.size
  b0 : W.cell? ⟨w.heap.size, 0, none⟩ = some (.slice (some ⟨X, 0, none⟩) l.length l.length)
  b1 : W.cell? ⟨w.heap.size + 1, 0, none⟩ = some (.int .i64 m)
  b2 : W.cell? ⟨w.heap.size + 2, 0, none⟩ = some (.bool false)
  f2 : W.frozen? ⟨w.heap.size + 2, 0, none⟩ = false
  b3 : W.cell? ⟨w.heap.size + 3, 0, none⟩ = some (.slice (some ⟨X, 0, none⟩) l.length l.length)
  own : OX X l W
theorem On.turn {X B : Nat} {w W W' : World} (h : On X w W) (ht : Turn B W W') (hB : w.heap.size ≤ B) : On X w W' :=
  ⟨ht.below.os.trans h.os, ht.below.tape.trans h.tape, ht.below.output.trans h.output, Nat.le_trans h.size ht.below.size, fun k hk hn => (ht.below.block k (by omega)).trans (h.block k hk hn)⟩
theorem AT.turn {w W W' : World} {X m : Nat} {l : List (Int × Int)} (h : AT w X m l W) (ht : Turn (w.heap.size + 4) W W') : AT w X m l W' :=
  ⟨h.on.turn ht (by omega), Nat.le_trans h.lt ht.below.size, h.xlt, ht.cell h.b0, ht.cell h.b1, ht.cell h.b2, (ht.frozen h.b2).trans h.f2, ht.cell h.b3, ht.owns h.own⟩
theorem far2 (W : World) {a b : Nat} (h : a ≠ b) (i j : Nat) (u : Value) : (W.setCell ⟨a, i, none⟩ u).cell? ⟨b, j, none⟩ = W.cell? ⟨b, j, none⟩ := World.cell?_setCell_other W _ _ u (fun q => h (by have := congrArg Addr.block q; simpa using this))
theorem AT.set {w W : World} {X m k : Nat} {l : List (Int × Int)} {x : Int × Int} (h : AT w X m l W) (hx : l[k]? = some x) (e : Int) : AT w X m (l.set k (e, x.2)) (W.setCell ⟨X, k * 2, none⟩ (.int .i64 e)) := by
  have hl := h.xlt
  exact ⟨h.on.set _ _, by simpa using h.lt, hl, (far2 W (by omega) _ _ _).trans (by rw [List.length_set]; exact h.b0), (far2 W (by omega) _ _ _).trans h.b1, (far2 W (by omega) _ _ _).trans h.b2, by simpa using h.f2, (far2 W (by omega) _ _ _).trans (by rw [List.length_set]; exact h.b3), h.own.set hx e⟩
theorem AT.drew {w W : World} {X m : Nat} {l : List (Int × Int)} (h : AT w X m l W) : AT w X m l W.drew := by
  obtain ⟨hc, hf⟩ := bcell (World.drewB W)
  have hs := h.lt
  exact ⟨h.on.trans (On.of_below (World.drewB W)), by simpa using hs, h.xlt, (hc _ _ (by omega)).trans h.b0, (hc _ _ (by omega)).trans h.b1, (hc _ _ (by omega)).trans h.b2, (hf _ _ (by omega)).trans h.f2, (hc _ _ (by omega)).trans h.b3, h.own.next (World.drewB W)⟩
theorem AT.start {w : World} {X : Nat} {l : List (Int × Int)} (h : OX X l w) (m : Nat) : AT w X m l ((((w.alloc (.cells #[.slice (some ⟨X, 0, none⟩) l.length l.length] 22)).alloc (.cells #[.int .i64 m] 3)).alloc (.cells #[.bool false] 4)).alloc (.cells #[.slice (some ⟨X, 0, none⟩) l.length l.length] 22)) := by
  have hb := bt (bt (bt (ba w (.cells #[.slice (some ⟨X, 0, none⟩) l.length l.length] 22)) (ba _ (.cells #[.int .i64 m] 3))) (ba _ (.cells #[.bool false] 4))) (ba _ (.cells #[.slice (some ⟨X, 0, none⟩) l.length l.length] 22))
  refine ⟨On.of_below hb, by simp, h.lt, ?_, ?_, ?_, ?_, ?_, h.next hb⟩
  all_goals go_simp
/-- the last j of the schedule have been turned -/
def AJ (w : World) (X m : Nat) (o : Int) (es : List Nat) (j : Nat) (W : World) : Prop := ∃ (q : List Nat) (r : Nat), q.length = j ∧ es = q ++ List.replicate r m ∧ AT w X m (perL o (q ++ List.replicate r 0)) W
/-- it has been found -/
def AS (w : World) (X m : Nat) (o : Int) (es : List Nat) (c : Code) (W : World) : Prop := c = .ret ∧ ∃ (p : List Nat) (x r : Nat), x < m ∧ es = p ++ x :: List.replicate r m ∧ On X w W ∧ OX X (perL o (p ++ (x + 1) :: List.replicate r 0)) W ∧ w.heap.size + 4 ≤ W.heap.size ∧ W.cell? ⟨w.heap.size + 2, 0, none⟩ = some (.bool true)
/-- the j-th comes -/
def AE (w : World) (X m : Nat) (o : Int) (es : List Nat) (j e : Nat) (W : World) : Prop := ∃ (q : List Nat) (r : Nat), q.length = j ∧ es = q ++ e :: List.replicate r m ∧ AT w X m (perL o (q ++ e :: List.replicate r 0)) W
theorem AJ.cons {w W : World} {X m j : Nat} {o : Int} {es : List Nat} (h : AJ w X m o es (j + 1) W) : ∃ e, AE w X m o es j e W := by
  obtain ⟨q, r, hq, he, hT⟩ := h
  obtain ⟨i, x, rfl⟩ : ∃ i x, q = i ++ [x] := by
    rcases List.eq_nil_or_concat q with h0 | ⟨a, b, h0⟩
    · subst h0; simp at hq
    · exact ⟨a, b, by rw [h0, List.concat_eq_append]⟩
  refine ⟨x, i, r, by simpa using hq, by rw [he]; simp, ?_⟩
  rw [List.append_assoc, List.singleton_append] at hT
  exact hT
theorem perL_at (o : Int) {q s : List Nat} {e j : Nat} (hq : q.length = j) : (perL o (q ++ e :: s))[j]? = some ((e : Int), o) := by
  unfold perL
  rw [List.getElem?_map, List.getElem?_append_right (by omega), hq, Nat.sub_self]
  rfl
theorem perL_set (o : Int) {q s : List Nat} {e j : Nat} (e' : Nat) (hq : q.length = j) : (perL o (q ++ e :: s)).set j ((e' : Int), o) = perL o (q ++ e' :: s) := by
  unfold perL
  rw [List.map_append, List.map_append, List.set_append_right _ _ (by simp; omega)]
  simp [hq]
theorem AE.turn {w W W' : World} {X m j e : Nat} {o : Int} {es : List Nat} (h : AE w X m o es j e W) (ht : Turn (w.heap.size + 4) W W') : AE w X m o es j e W' := by
  obtain ⟨q, r, h1, h2, h3⟩ := h
  exact ⟨q, r, h1, h2, h3.turn ht⟩
theorem AJ.turn {w W W' : World} {X m j : Nat} {o : Int} {es : List Nat} (h : AJ w X m o es j W) (ht : Turn (w.heap.size + 4) W W') : AJ w X m o es j W' := by
  obtain ⟨q, r, h1, h2, h3⟩ := h
  exact ⟨q, r, h1, h2, h3.turn ht⟩
theorem AS.turn {w W W' : World} {X m : Nat} {o : Int} {es : List Nat} {c : Code} (h : AS w X m o es c W) (ht : Turn (w.heap.size + 4) W W') : AS w X m o es c W' := by
  obtain ⟨rfl, p, x, r, h1, h2, h3, h4, h5, h6⟩ := h
  exact ⟨rfl, p, x, r, h1, h2, h3.turn ht (by omega), ht.owns h4, Nat.le_trans h5 ht.below.size, ht.cell h6⟩
/-- what advance answers -/
def AdvP (X m : Nat) (o : Int) (es : List Nat) (w : World) (e : Ending) (w' : World) : Prop :=
  ((∃ (p : List Nat) (x r : Nat), x < m ∧ es = p ++ x :: List.replicate r m ∧ e = .returned (.bool true) ∧ OX X (perL o (p ++ (x + 1) :: List.replicate r 0)) w') ∨ (es = List.replicate es.length m ∧ e = .returned (.bool false) ∧ OX X (perL o (List.replicate es.length 0)) w')) ∧ On X w w'
set_option maxRecDepth 100000 in
set_option maxHeartbeats 4000000 in
theorem advance_c (X m : Nat) (hm : m ≤ 1073741824) (o : Int) (es : List Nat) (hl : es.length ≤ 1000) (hd : Dig m es) (w : World) (h : OX X (perL o es) w) : Calls Tryd.prog 63 #[.slice (some ⟨X, 0, none⟩) es.length es.length, .int .i64 m] w (AdvP X m o es w) := by
  have hle : (perL o es).length = es.length := perL_len o es
  refine (callsIn_wide (n := 3)).1 ?_
  refine callsIn_of_wp_marks Tryd.func63 rfl trivial ?_ rfl
  simp only [Tryd.ntmps63, List.size_toArray, List.length_cons, List.length_nil, Nat.reduceAdd, Nat.reduceSub, Array.replicate_succ, Array.replicate_zero, List.push_toArray, List.append_toArray, List.nil_append, List.cons_append]
  have hT0 := AT.start h m
  rw [hle] at hT0
  clear h
  gi_wp2_with (refine ⟨trivial, ?_⟩; gi_at_call 78; refine (callsIn_wide.2 (back_c _ _ _ _)).mono ?_; rintro e w2 ⟨rfl, rfl⟩)
  simp only [Nat.add_assoc, Nat.reduceAdd]
  have hsz : ((((w.alloc (.cells #[.slice (some ⟨X, 0, none⟩) es.length es.length] 22)).alloc (.cells #[.int .i64 m] 3)).alloc (.cells #[.bool false] 4)).alloc (.cells #[.slice (some ⟨X, 0, none⟩) es.length es.length] 22)).heap.size = w.heap.size + 4 := by simp
  generalize (((w.alloc (.cells #[.slice (some ⟨X, 0, none⟩) es.length es.length] 22)).alloc (.cells #[.int .i64 m] 3)).alloc (.cells #[.bool false] 4)).alloc (.cells #[.slice (some ⟨X, 0, none⟩) es.length es.length] 22) = W0 at *
  refine range_direct (σ := Nat × Nat) rfl (by omega) (gf := 98) (lb := #[.pointer (some ⟨w.heap.size + 3, 0, none⟩)]) rfl trivial (enters_of Tryd.func98 (by kernel_rfl) rfl) (fun σ => #[.int .i64 (σ.1 : Int), .agg #[.int .i64 (σ.2 : Int), .int .i64 o]]) (fun _ => rfl)
    (fun σ W => AE w X m o es σ.1 σ.2 W)
    (fun σ W => AJ w X m o es σ.1 W)
    (AS w X m o es) (AJ w X m o es 0)
    (fun σ W W' ht h => by rw [hsz] at ht; exact h.turn ht)
    (fun σ W W' ht h => by rw [hsz] at ht; exact h.turn ht)
    (fun c W W' ht h => by rw [hsz] at ht; exact h.turn ht)
    (fun W W' ht h => by rw [hsz] at ht; exact h.turn ht)
    (fun σ => { tmps := #[.slice (some ⟨X, 0, none⟩) es.length es.length, .int .i64 m, .pointer (some ⟨w.heap.size, 0, none⟩), .pointer (some ⟨w.heap.size + 1, 0, none⟩), .pointer (some ⟨w.heap.size + 2, 0, none⟩), .int .i64 (σ.1 : Int), .slice (some ⟨X, 0, none⟩) es.length es.length, .func (.func 98) #[] #[.pointer (some ⟨w.heap.size + 3, 0, none⟩)], .int .i64 (σ.1 : Int), .agg #[.int .i64 (σ.2 : Int), .int .i64 o], undef, undef, undef, undef, undef, undef, undef, undef, undef, undef, undef, undef, undef, undef, undef, undef, undef, undef, undef], defers := [] }) ?assign ?body ?iter ?done ?stop
  case assign =>
    intro l σ W K hK
    gi_wp2
    exact hK
  case iter =>
    intro L D rr W1 Lv ht hR hY
    rw [hsz] at ht
    refine (iter98 (by omega) L (w.heap.size + 3) X es.length es.length (by omega) (fun j W => AJ w X m o es j W ∧ Rec L D rr W) Lv ?_ ?_ W1 ⟨AJ.turn ⟨es, 0, rfl, by simp, by simpa using hT0⟩ ht, hR⟩).mono ?_
    · rintro j W ⟨⟨q, r, h1, h2, h3⟩, -⟩
      have := h3.b3
      rw [perL_len] at this
      rw [this, h2]
      simp
    · rintro j W ⟨hJ, hR'⟩ hj
      obtain ⟨e, hE⟩ := hJ.cons
      have hy := hY (j, e) W hE hR'
      obtain ⟨q, r, h1, h2, h3⟩ := hE
      obtain ⟨c0, c1⟩ := h3.own.cell (perL_at o h1)
      exact ⟨(e : Int), o, c0, c1, hy.mono fun e' W' h => by
        rcases h with ⟨he, hn, hr⟩ | ⟨he, hl⟩
        · exact .inl ⟨he, hn, hr⟩
        · exact .inr ⟨he, hl⟩⟩
    · rintro e W' ⟨he, h | h⟩
      · exact ⟨he, .inl ⟨h.1, h.2⟩⟩
      · exact ⟨he, .inr h⟩
  case body =>
    rintro l ⟨j, e⟩ W ⟨q, r, hq, hes, T⟩
    simp only at hq hes T
    have hel : e ≤ m := hd e (by rw [hes]; simp)
    have hll : (perL o (q ++ e :: List.replicate r 0)).length = es.length := by rw [perL_len, hes]; simp
    have hjl : j < es.length := by rw [hes, ← hq]; simp
    have HT := Lib.hid T
    have HES := Lib.hid (And.intro hq hes)
    obtain ⟨_, hlt, hxl, b0, b1, b2, f2, b3, own⟩ := T
    have c0 := (own.cell (perL_at o hq)).1
    have fx := own.frozen (j * 2)
    rw [hll] at b0
    have hjI : (j : Int) < (es.length : Int) := by omega
    clear hq hes own b3 hT0
    by_cases hem : e < m
    · have hemI : (e : Int) < (m : Int) := by omega
      have hadd : IntKind.i64.wrap ((e : Int) + 1) = (e : Int) + 1 := IntWalk.i64_in _ (by omega)
      gi_wp2
      gi_region
      all_goals
        have T2 : AT w X m (perL o (q ++ (e + 1) :: List.replicate r 0)) (W.drew.setCell ⟨X, j * 2, none⟩ (.int .i64 ((e : Int) + 1))) := by
          have := HT.out.drew.set (perL_at o HES.out.1) ((e : Int) + 1)
          rw [show (((e : Int) + 1, o) : Int × Int) = (((e + 1 : Nat) : Int), o) from rfl, perL_set o (e + 1) HES.out.1] at this
          exact this
        have HT2 := Lib.hid T2
        clear T2
        gi_wp2
        refine ⟨((KeepsOthers.drew W).trans (KeepsOthers.setCell _ _ _)).trans (KeepsOthers.setCell _ _ _), rfl, q, e, r, hem, HES.out.2, HT2.out.on.setNew (by simp) _, owns_set' HT2.out.own (fun q => by simp [Value.ownBlock] at q; omega) _, by simpa using hlt, ?_⟩
        exact World.cell?_setCell_same _ _ _ HT2.out.b2
    · obtain rfl : e = m := by omega
      have hemI : ¬ (e : Int) < (e : Int) := by omega
      gi_wp2
      gi_region
      all_goals
        have T2 : AT w X e (perL o (q ++ 0 :: List.replicate r 0)) (W.drew.setCell ⟨X, j * 2, none⟩ (.int .i64 0)) := by
          have := HT.out.drew.set (perL_at o HES.out.1) 0
          rw [show (((0 : Int), o) : Int × Int) = (((0 : Nat) : Int), o) from rfl, perL_set o 0 HES.out.1] at this
          exact this
        have HT2 := Lib.hid T2
        clear T2
        gi_wp2
        exact ⟨(KeepsOthers.drew W).trans (KeepsOthers.setCell _ _ _), q, r + 1, HES.out.1, HES.out.2, HT2.out⟩
  case done =>
    rintro D W hD ⟨q, r, hq, hes, T⟩ hK
    obtain rfl : q = [] := List.eq_nil_of_length_eq_zero hq
    rw [List.nil_append] at hes T
    have hr : r = es.length := by rw [hes]; simp
    subst hr
    have HT := Lib.hid T
    have HK := Lib.hid hK
    have HES := Lib.hid hes
    obtain ⟨_, hlt, hxl, _, _, b2, f2, _, _⟩ := T
    clear hK hT0 hes hq
    gi_wp2
    have hk5 := (KeepsOthers.setCell W ⟨w.heap.size + 2, 0, none⟩ (.bool false)).same D _ HK.out rfl
    refine ⟨by simp, .inl ⟨_, _, rfl, run_takeDeferred hk5, ?_⟩⟩
    have ht := Turn.putObj (.deferred none) (show w.heap.size + 4 ≤ D by rw [hsz] at hD; exact hD) hk5 rfl
    have own5 := owns_set' HT.out.own (p := ⟨w.heap.size + 2, 0, none⟩) (fun q => by simp [Value.ownBlock] at q; omega) (.bool false)
    have on5 := HT.out.on.setNew (p := ⟨w.heap.size + 2, 0, none⟩) (by simp) (.bool false)
    have c2 := ht.cell (World.cell?_setCell_same W _ (.bool false) b2)
    have own6 := ht.owns own5
    have on6 := on5.turn ht (by omega)
    generalize (W.setCell ⟨w.heap.size + 2, 0, none⟩ (.bool false)).putObj D (.deferred none) = W6 at *
    exact ⟨.bool false, by simp [results, Tryd.results63, go_sem, c2], .inr ⟨HES.out, rfl, own6⟩, on6⟩
  case stop =>
    rintro D c W hD ⟨rfl, p, x, r, hx, hes, hon, hox, hlt, c2⟩ hK
    clear hT0
    gi_wp2
    refine ⟨by simp, .inl ⟨_, _, rfl, run_takeDeferred hK, ?_⟩⟩
    have ht := Turn.putObj (.deferred none) (show w.heap.size + 4 ≤ D by rw [hsz] at hD; exact hD) hK rfl
    replace c2 := ht.cell c2
    have own6 := ht.owns hox
    have on6 := hon.turn ht (by omega)
    generalize W.putObj D (.deferred none) = W6 at *
    exact ⟨.bool true, by simp [results, Tryd.results63, go_sem, c2], .inl ⟨p, x, r, hx, hes, rfl, own6⟩, on6⟩
end Go.Proofs.YtabfjiapoafgaaaDoor
