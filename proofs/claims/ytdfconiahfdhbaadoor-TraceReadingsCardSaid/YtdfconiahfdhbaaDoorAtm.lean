/-
  Slices of attempts in memory; activity and inner.
-/
import Derived.Test.YtdfconiahfdhbaaDoorAtp
import Derived.Test.YtdfconiahfdhbaaDoorTxp
import Derived.BigRegion
import Derived.Maps.AppendAt
namespace Go.Proofs.YtdfconiahfdhbaaDoor
open Go.RowKit
attribute [local go_sem ↓] Go.wp_at_zero Go.wp_at_succ

def cellsA (x : At) : List Value := [.int .i64 x.fr, .int .i64 x.tt, .int .i64 x.task, .bool x.com]
def flatA (l : List At) : List Value := l.flatMap cellsA
theorem flatA_snoc (l : List At) (e : At) : flatA (l ++ [e]) = flatA l ++ cellsA e := by unfold flatA; simp
theorem flatA_len (l : List At) : (flatA l).length = l.length * 4 := by
  induction l with
  | nil => rfl
  | cons e l ih =>
    show (cellsA e ++ flatA l).length = _
    rw [List.length_append, ih, List.length_cons, show (cellsA e).length = 4 from rfl]
    omega
theorem flatA_at (l : List At) (j : Nat) (e : At) (h : l[j]? = some e) (i : Nat) (hi : i < 4) : (flatA l)[j * 4 + i]? = (cellsA e)[i]? := by
  induction l generalizing j with
  | nil => cases h
  | cons x l ih =>
    show (cellsA x ++ flatA l)[j * 4 + i]? = _
    have hx : (cellsA x).length = 4 := rfl
    cases j with
    | zero =>
      obtain rfl := Option.some.inj h
      rw [List.getElem?_append_left (by rw [hx]; omega), Nat.zero_mul, Nat.zero_add]
    | succ j =>
      rw [List.getElem?_append_right (by rw [hx]; omega), hx, show (j + 1) * 4 + i - 4 = j * 4 + i from by omega]
      exact ih j (by simpa using h)
/-- an attempt's cells from an address on -/
structure AtA (w : World) (a : Addr) (x : At) : Prop where
  lt : a.block < w.heap.size
  c0 : w.cell? a = some (.int .i64 x.fr)
  c1 : w.cell? ⟨a.block, a.off + 1, none⟩ = some (.int .i64 x.tt)
  c2 : w.cell? ⟨a.block, a.off + 2, none⟩ = some (.int .i64 x.task)
  c3 : w.cell? ⟨a.block, a.off + 3, none⟩ = some (.bool x.com)
theorem AtA.next {w w' : World} {a : Addr} {e : At} (h : AtA w a e) (hb : Below w.heap.size w w') : AtA w' a e := by
  obtain ⟨hc, -⟩ := bcell hb
  exact ⟨Nat.lt_of_lt_of_le h.lt hb.size, (hb.cell h.lt).trans h.c0, (hc _ _ h.lt).trans h.c1, (hc _ _ h.lt).trans h.c2, (hc _ _ h.lt).trans h.c3⟩
structure Atts (w : World) (A : Option Addr) (l : List At) : Prop where
  at_ : ∀ j e, l[j]? = some e → ∃ ad, A = some ad ∧ AtA w (ad.add (j * 4)) e
theorem Atts.next {w w' : World} {A : Option Addr} {l : List At} (h : Atts w A l) (hb : Below w.heap.size w w') : Atts w' A l :=
  ⟨fun j e hj => by
    obtain ⟨ad, ea, H⟩ := h.at_ j e hj
    exact ⟨ad, ea, H.next hb⟩⟩
theorem Atts.of_own {w : World} {base e n : Nat} {v : Value} {l : List At} (h : w.ownsRow base e 4 v n (flatA l)) : ∃ A cap, v = .slice A l.length cap ∧ Atts w A l := by
  have hn : l.length = n := by have := h.1; rw [flatA_len] at this; omega
  have H := h
  obtain ⟨hl, ⟨rfl, hx⟩ | ⟨g, cap, cur, rfl, hg, hh, h1, h2, h3, h4⟩⟩ := h
  · have hn0 : l = [] := List.eq_nil_of_length_eq_zero (hn.trans hx)
    subst hn0
    exact ⟨none, 0, rfl, ⟨fun j x hj => by simp at hj⟩⟩
  · have hlt : g < w.heap.size := (Array.getElem?_eq_some_iff.1 hh).1
    refine ⟨_, cap, by rw [hn], ⟨fun j x hj => ⟨⟨g, 0, none⟩, rfl, ?_⟩⟩⟩
    have hc := H.cells (g := g) rfl
    have ha : ∀ m, (⟨g, 0, none⟩ : Addr).add m = ⟨g, m, none⟩ := fun m => by unfold Addr.add; split <;> simp_all
    have k := fun i hi => flatA_at l j x hj i hi
    have q : ∀ i u, i < 4 → (cellsA x)[i]? = some u → w.cell? ⟨g, j * 4 + i, none⟩ = some u := fun i u hi hu => by rw [← ha]; exact hc _ _ ((k i hi).trans hu)
    rw [ha]
    exact ⟨hlt, q 0 _ (by omega) rfl, q 1 _ (by omega) rfl, q 2 _ (by omega) rfl, q 3 _ (by omega) rfl⟩
theorem info48 : (Tryd.prog.info? 48).map (fun i => (i.zero, i.size, i.bytes)) = some (some (.agg #[.int .i64 0, .int .i64 0, .int .i64 0, .bool false]), 4, 32) := by kernel_rfl
theorem info47 : (Tryd.prog.info? 47).map (fun i => (i.zero, i.size, i.bytes)) = some (some (.agg #[.int .i64 0, .int .i64 0, .int .i64 0, .bool false]), 4, 32) := by kernel_rfl
theorem one_at (x : At) : ∀ u ∈ cellsA x, u.oneCell' = true := by
  intro u hu
  simp [cellsA] at hu
  rcases hu with rfl | rfl | rfl | rfl <;> rfl
theorem news_at (w : World) (x : At) (e : TypeId) : ∀ (j : Nat) u, (cellsA x)[j]? = some u → (w.alloc (.cells #[.int .i64 x.fr, .int .i64 x.tt, .int .i64 x.task, .bool x.com] e)).cell? ((⟨w.heap.size, 0, none⟩ : Addr).add j) = some u := by
  intro j u hu
  match j with
  | 0 => simp [cellsA] at hu; subst hu; exact (World.cell?_alloc_at _ _ _ _ rfl).trans rfl
  | 1 => simp [cellsA] at hu; subst hu; exact (World.cell?_alloc_at _ _ _ _ rfl).trans rfl
  | 2 => simp [cellsA] at hu; subst hu; exact (World.cell?_alloc_at _ _ _ _ rfl).trans rfl
  | 3 => simp [cellsA] at hu; subst hu; exact (World.cell?_alloc_at _ _ _ _ rfl).trans rfl
  | j + 4 => simp [cellsA] at hu
/-- an attempt in a block of its own -/
structure AX (X : Nat) (fr tt task : Int) (com : Bool) (W : World) : Prop where
  lt : X < W.heap.size
  c0 : W.cell? ⟨X, 0, none⟩ = some (.int .i64 fr)
  c1 : W.cell? ⟨X, 1, none⟩ = some (.int .i64 tt)
  c2 : W.cell? ⟨X, 2, none⟩ = some (.int .i64 task)
  c3 : W.cell? ⟨X, 3, none⟩ = some (.bool com)
  fz : ∀ i, W.frozen? ⟨X, i, none⟩ = false
theorem AX.new (w : World) (fr tt task : Int) (com : Bool) (t : TypeId) : AX w.heap.size fr tt task com (w.alloc (.cells #[.int .i64 fr, .int .i64 tt, .int .i64 task, .bool com] t)) :=
  ⟨by simp, (World.cell?_alloc_at _ _ _ _ rfl).trans rfl, (World.cell?_alloc_at _ _ _ _ rfl).trans rfl, (World.cell?_alloc_at _ _ _ _ rfl).trans rfl, (World.cell?_alloc_at _ _ _ _ rfl).trans rfl, fun i => World.frozen?_alloc_at _ _ _ _ rfl⟩
section
variable {X : Nat} {fr tt task : Int} {com : Bool} {W W' : World}
theorem AX.next (h : AX X fr tt task com W) (hb : Below W.heap.size W W') : AX X fr tt task com W' := by
  obtain ⟨hc, hf⟩ := bcell hb
  have hs := h.lt
  exact ⟨Nat.lt_of_lt_of_le hs hb.size, (hc _ _ hs).trans h.c0, (hc _ _ hs).trans h.c1, (hc _ _ hs).trans h.c2, (hc _ _ hs).trans h.c3, fun i => (hf _ _ hs).trans (h.fz i)⟩
theorem set_off (W : World) (X : Nat) {i j : Nat} (h : i ≠ j) (u : Value) : (W.setCell ⟨X, i, none⟩ u).cell? ⟨X, j, none⟩ = W.cell? ⟨X, j, none⟩ := World.cell?_setCell_other W _ _ u (fun q => h (by have := congrArg Addr.off q; simpa using this))
theorem AX.setT (h : AX X fr tt task com W) (n : Int) : AX X fr n task com (W.setCell ⟨X, 1, none⟩ (.int .i64 n)) :=
  ⟨by simpa using h.lt, (set_off W X (by decide) _).trans h.c0, World.cell?_setCell_same _ _ _ h.c1, (set_off W X (by decide) _).trans h.c2, (set_off W X (by decide) _).trans h.c3, fun i => by simpa using h.fz i⟩
theorem AX.setC (h : AX X fr tt task com W) (b : Bool) : AX X fr tt task b (W.setCell ⟨X, 3, none⟩ (.bool b)) :=
  ⟨by simpa using h.lt, (set_off W X (by decide) _).trans h.c0, (set_off W X (by decide) _).trans h.c1, (set_off W X (by decide) _).trans h.c2, World.cell?_setCell_same _ _ _ h.c3, fun i => by simpa using h.fz i⟩
end
theorem owns_set' {base : Nat} {e : TypeId} {size : Nat} {v : Value} {n : Nat} {xs : List Value} {w : World} (h : w.ownsRow base e size v n xs) {p : Addr} (hp : v.ownBlock ≠ some p.block) (u : Value) : (w.setCell p u).ownsRow base e size v n xs := by
  obtain ⟨hl, h | ⟨g, cap, cur, hv, hg, hh, h1, h2, h3, h4⟩⟩ := h
  · exact ⟨hl, .inl h⟩
  · have hne : g ≠ p.block := fun q => hp (by rw [hv, ← q]; rfl)
    exact ⟨hl, .inr ⟨g, cap, cur, hv, hg, (Below.heap_setCell w p u g hne).trans hh, h1, h2, h3, h4⟩⟩
/-- the attempts so far, and the one at hand -/
structure AS (w0 : World) (te : TypeId) (o : List At) (v : Value) (X : Nat) (fr tt task : Int) (com : Bool) (W : World) : Prop where
  below : Below w0.heap.size w0 W
  own : W.ownsRow w0.heap.size te 4 v o.length (flatA o)
  ge : w0.heap.size ≤ X
  ne : v.ownBlock ≠ some X
  ax : AX X fr tt task com W
section
variable {w0 W W' : World} {te : TypeId} {o : List At} {v : Value} {X : Nat} {fr tt task : Int} {com : Bool}
theorem AS.next (h : AS w0 te o v X fr tt task com W) (hb : Below W.heap.size W W') : AS w0 te o v X fr tt task com W' := ⟨bt h.below hb, owns_below h.own hb, h.ge, h.ne, h.ax.next hb⟩
theorem AS.setT (h : AS w0 te o v X fr tt task com W) (n : Int) : AS w0 te o v X fr n task com (W.setCell ⟨X, 1, none⟩ (.int .i64 n)) := ⟨h.below.setCell (p := ⟨X, 1, none⟩) h.ge _, owns_set' h.own h.ne _, h.ge, h.ne, h.ax.setT n⟩
theorem AS.setC (h : AS w0 te o v X fr tt task com W) (b : Bool) : AS w0 te o v X fr tt task b (W.setCell ⟨X, 3, none⟩ (.bool b)) := ⟨h.below.setCell (p := ⟨X, 3, none⟩) h.ge _, owns_set' h.own h.ne _, h.ge, h.ne, h.ax.setC b⟩
end
theorem act_c (e : Ev) (w : World) {b : Bool} (hb : actE e = b) : Calls Tryd.prog 41 #[.agg #[.int .i64 e.kind, .int .i64 e.time, .int .i64 e.task, .int .i64 e.n, .int .i16 e.value, .int .i64 e.port]] w fun r w' => r = .returned (.bool b) ∧ Below w.heap.size w w' := by
  subst hb
  by_cases h4 : e.kind = 4
  · go_enter Tryd.func41, Tryd.ntmps41
    go_wp2_with fail
    go_ret
    exact ⟨ret_bool (by simp [actE, h4]), ba w _⟩
  · by_cases h12 : e.kind = 12
    · go_enter Tryd.func41, Tryd.ntmps41
      go_wp2_with fail
      go_ret
      exact ⟨ret_bool (by simp [actE, h12]), ba w _⟩
    · by_cases h11 : e.kind = 11
      · go_enter Tryd.func41, Tryd.ntmps41
        go_wp2_with fail
        go_ret
        exact ⟨ret_bool (by simp [actE, h11]), ba w _⟩
      · go_enter Tryd.func41, Tryd.ntmps41
        go_wp2_with fail
        go_ret
        exact ⟨ret_bool (by simp [actE, h4, h12, h11]), ba w _⟩
theorem inner_c (e : Ev) (w : World) {b : Bool} (hb : actE e = b) : Calls Tryd.prog 42 #[.agg #[.int .i64 e.kind, .int .i64 e.time, .int .i64 e.task, .int .i64 e.n, .int .i16 e.value, .int .i64 e.port]] w fun r w' => r = .returned (.bool b) ∧ Below w.heap.size w w' := by
  subst hb
  by_cases h4 : e.kind = 4
  · go_enter Tryd.func42, Tryd.ntmps42
    go_wp2_with fail
    go_ret
    exact ⟨ret_bool (by simp [actE, h4]), ba w _⟩
  · by_cases h12 : e.kind = 12
    · go_enter Tryd.func42, Tryd.ntmps42
      go_wp2_with fail
      go_ret
      exact ⟨ret_bool (by simp [actE, h12]), ba w _⟩
    · by_cases h11 : e.kind = 11
      · go_enter Tryd.func42, Tryd.ntmps42
        go_wp2_with fail
        go_ret
        exact ⟨ret_bool (by simp [actE, h11]), ba w _⟩
      · go_enter Tryd.func42, Tryd.ntmps42
        go_wp2_with fail
        go_ret
        exact ⟨ret_bool (by simp [actE, h4, h12, h11]), ba w _⟩
end Go.Proofs.YtdfconiahfdhbaaDoor
