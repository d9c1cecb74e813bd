/-
  The text of a list of events is read in one way alone; slices of events that a call owns.
-/
import Derived.Test.YtdfconiahfdhbaaDoorEvs
import Derived.Test.YtdfconiahfdhbaaDoorWds
import Derived.Deep.AppendLies
import Derived.Laws.OwnMore
import Derived.OwnWalk
namespace Go.Proofs.YtdfconiahfdhbaaDoor
open Go.RowKit

def Vld (l : List Ev) : Prop := ∀ e ∈ l, InE e ∧ validE e = true
theorem Vld.nil : Vld [] := fun e he => by cases he
theorem Vld.snoc {l : List Ev} {e : Ev} (h : Vld l) (h1 : InE e) (h2 : validE e = true) : Vld (l ++ [e]) := fun x hx => by
  rcases List.mem_append.1 hx with hx | hx
  · exact h x hx
  · rw [List.mem_singleton.1 hx]; exact ⟨h1, h2⟩
/-- no valid event's line stands at the head -/
def Stuck (rest : List UInt8) : Prop := ∀ e, InE e → validE e = true → ¬ lineE e <+: rest
theorem cut_uniq {c : UInt8} : ∀ {p q A B : List UInt8}, c ∉ p → c ∉ q → p ++ c :: A = q ++ c :: B → p = q ∧ A = B
  | [], [], A, B, _, _, h => ⟨rfl, by simpa using h⟩
  | [], y :: q, A, B, _, hq, h => by
    have := (List.cons.inj h).1
    exact absurd (by simp [this]) hq
  | x :: p, [], A, B, hp, _, h => by
    have := (List.cons.inj h).1
    exact absurd (by simp [this]) hp
  | x :: p, y :: q, A, B, hp, hq, h => by
    have h1 := (List.cons.inj h).1
    have h2 := cut_uniq (p := p) (q := q) (fun e => hp (by simp [e])) (fun e => hq (by simp [e])) (List.cons.inj h).2
    exact ⟨by rw [h1, h2.1], h2.2⟩
theorem onlyE_flds {e : Ev} (hv : validE e = true) : onlyE e (flds e) = e := by
  unfold validE at hv
  simp only [Bool.and_eq_true] at hv
  exact eqE_iff.1 hv.2.2.2
theorem wordsE_inj {x y : Ev} (hx : validE x = true) (hy : validE y = true) (h : wordsE x = wordsE y) : x = y := by
  have vx := valid_ve hx
  have vy := valid_ve hy
  unfold wordsE at h
  have h0 := (List.cons.inj h).1
  have h1 := (List.cons.inj (List.cons.inj h).2).1
  have h2 := (List.cons.inj (List.cons.inj h).2).2
  have d : ∀ a b : List UInt8, (⟨a.toArray⟩ : ByteArray) = ⟨b.toArray⟩ → a = b := fun a b e => congrArg (fun z : ByteArray => z.data.toList) e
  have ht := Dec.itoa_inj (d _ _ h0)
  have hk : x.kind.toNat = y.kind.toNat := kindW_inj _ (by have := vx.k; omega) _ (by have := vy.k; omega) (d _ _ h1)
  have hkk : x.kind = y.kind := by have := vx.k; have := vy.k; omega
  have hf : flds x = flds y := by unfold flds; rw [hk]
  rw [hf] at h2
  have hg : ∀ f ∈ flds y, getE x f = getE y f := fun f hf => Dec.itoa_inj (d _ _ (List.map_inj_left.1 h2 f hf))
  rw [← onlyE_flds hx, ← onlyE_flds hy, hf]
  have hb : baseE x.kind x.time = baseE y.kind y.time := by rw [hkk, ht]
  unfold onlyE
  rw [hb]
  generalize baseE y.kind y.time = b
  revert b
  generalize flds y = l at hg
  induction l with
  | nil => intro b; rfl
  | cons f l ih =>
    intro b
    rw [List.foldl_cons, List.foldl_cons, hg f (by simp)]
    exact ih (fun g hgm => hg g (by simp [hgm])) _
theorem lineN_inj {x y : Ev} (hx : validE x = true) (hy : validE y = true) (h : lineN x = lineN y) : x = y := by
  refine wordsE_inj hx hy ?_
  have h1 := pieces_line (valid_ve hx) (s := ⟨(lineN x).toArray⟩) rfl
  have h2 := pieces_line (valid_ve hy) (s := ⟨(lineN x).toArray⟩) h
  exact h1.symm.trans h2
theorem line_app (e : Ev) (C : List UInt8) : lineE e ++ C = lineN e ++ 10 :: C := by unfold lineE; simp
theorem line_uniq {x y : Ev} {A B : List UInt8} (hx : validE x = true) (hy : validE y = true) (h : lineE x ++ A = lineE y ++ B) : x = y ∧ A = B := by
  rw [line_app, line_app] at h
  obtain ⟨h1, h2⟩ := cut_uniq (lineN_no10 (valid_ve hx)) (lineN_no10 (valid_ve hy)) h
  exact ⟨lineN_inj hx hy h1, h2⟩
theorem lineE_ne (e : Ev) (A : List UInt8) : lineE e ++ A ≠ [] := by unfold lineE; simp
theorem txt_uniq : ∀ (l1 l2 : List Ev) (r1 r2 : List UInt8), Vld l1 → Vld l2 → txt l1 ++ r1 = txt l2 ++ r2 → (r1 = [] ∨ Stuck r1) → (r2 = [] ∨ Stuck r2) → l1 = l2 ∧ r1 = r2
  | [], [], r1, r2, _, _, h, _, _ => ⟨rfl, by simpa [txt] using h⟩
  | [], y :: l2, r1, r2, _, v2, h, s1, _ => by
    exfalso
    rw [txt_cons, List.append_assoc] at h
    simp only [txt, List.flatMap_nil, List.nil_append] at h
    rcases s1 with rfl | s1
    · exact lineE_ne y _ h.symm
    · exact s1 y (v2 y (by simp)).1 (v2 y (by simp)).2 ⟨_, h.symm⟩
  | x :: l1, [], r1, r2, v1, _, h, _, s2 => by
    exfalso
    rw [txt_cons, List.append_assoc] at h
    simp only [txt, List.flatMap_nil, List.nil_append] at h
    rcases s2 with rfl | s2
    · exact lineE_ne x _ h
    · exact s2 x (v1 x (by simp)).1 (v1 x (by simp)).2 ⟨_, h⟩
  | x :: l1, y :: l2, r1, r2, v1, v2, h, s1, s2 => by
    rw [txt_cons, txt_cons, List.append_assoc, List.append_assoc] at h
    obtain ⟨rfl, h2⟩ := line_uniq (v1 x (by simp)).2 (v2 y (by simp)).2 h
    obtain ⟨k1, k2⟩ := txt_uniq l1 l2 r1 r2 (fun z hz => v1 z (by simp [hz])) (fun z hz => v2 z (by simp [hz])) h2 s1 s2
    exact ⟨by rw [k1], k2⟩
theorem stuck_none {r : List UInt8} (h : (10 : UInt8) ∉ r) : Stuck r := fun e _ _ hp => h (hp.subset (by unfold lineE; simp))
theorem stuck_line {p q : List UInt8} (hp : (10 : UInt8) ∉ p) (h : ∀ e, InE e → validE e = true → p ++ [10] ≠ lineE e) : Stuck (p ++ 10 :: q) := fun e he hv hx => by
  obtain ⟨t, ht⟩ := hx
  rw [line_app] at ht
  obtain ⟨h1, -⟩ := cut_uniq (lineN_no10 (valid_ve hv)) hp ht
  exact h e he hv (by rw [← h1]; rfl)
/-- the cells of events in a row -/
def cellsE (e : Ev) : List Value := [.int .i64 e.kind, .int .i64 e.time, .int .i64 e.task, .int .i64 e.n, .int .i16 e.value, .int .i64 e.port]
def flat (l : List Ev) : List Value := l.flatMap cellsE
theorem flat_snoc (l : List Ev) (e : Ev) : flat (l ++ [e]) = flat l ++ cellsE e := by unfold flat; simp
theorem flat_len (l : List Ev) : (flat l).length = l.length * 6 := by
  induction l with
  | nil => rfl
  | cons e l ih =>
    show (cellsE e ++ flat l).length = _
    rw [List.length_append, ih, List.length_cons, show (cellsE e).length = 6 from rfl]
    omega
theorem flat_at (l : List Ev) (j : Nat) (e : Ev) (h : l[j]? = some e) (i : Nat) (hi : i < 6) : (flat l)[j * 6 + i]? = (cellsE e)[i]? := by
  induction l generalizing j with
  | nil => cases h
  | cons x l ih =>
    show (cellsE x ++ flat l)[j * 6 + i]? = _
    have hx : (cellsE x).length = 6 := rfl
    cases j with
    | zero =>
      obtain rfl := Option.some.inj h
      rw [List.getElem?_append_left (by rw [hx]; omega), Nat.zero_mul, Nat.zero_add]
    | succ j =>
      rw [List.getElem?_append_right (by rw [hx]; omega), hx, show (j + 1) * 6 + i - 6 = j * 6 + i from by omega]
      exact ih j (by simpa using h)
theorem Evs.of_own {w : World} {base e n : Nat} {v : Value} {l : List Ev} (h : w.ownsRow base e 6 v n (flat l)) : ∃ A cap, v = .slice A l.length cap ∧ Evs w A l := by
  have hn : l.length = n := by have := h.1; rw [flat_len] at this; omega
  have H := h
  obtain ⟨hl, ⟨rfl, hx⟩ | ⟨g, cap, cur, rfl, hg, hh, h1, h2, h3, h4⟩⟩ := h
  · have hn0 : l = [] := List.eq_nil_of_length_eq_zero (hn.trans hx)
    subst hn0
    exact ⟨none, 0, rfl, Evs.nil _⟩
  · have hlt : g < w.heap.size := (Array.getElem?_eq_some_iff.1 hh).1
    refine ⟨_, cap, by rw [hn], ⟨fun j x hj => ⟨⟨g, 0, none⟩, rfl, ?_⟩⟩⟩
    have hc := H.cells (g := g) rfl
    have ha : ∀ m, (⟨g, 0, none⟩ : Addr).add m = ⟨g, m, none⟩ := fun m => by unfold Addr.add; split <;> simp_all
    have k := fun i hi => flat_at l j x hj i hi
    have q : ∀ i u, i < 6 → (cellsE x)[i]? = some u → w.cell? ⟨g, j * 6 + i, none⟩ = some u := fun i u hi hu => by rw [← ha]; exact hc _ _ ((k i hi).trans hu)
    rw [ha]
    exact ⟨hlt, q 0 _ (by omega) rfl, q 1 _ (by omega) rfl, q 2 _ (by omega) rfl, q 3 _ (by omega) rfl, q 4 _ (by omega) rfl, q 5 _ (by omega) rfl⟩
theorem info26 : (Tryd.prog.info? 26).map (fun i => (i.zero, i.size, i.bytes)) = some (some (.agg #[.int .i64 0, .int .i64 0, .int .i64 0, .int .i64 0, .int .i16 0, .int .i64 0]), 6, 48) := by kernel_rfl
theorem owns_below {base : Nat} {e : TypeId} {size : Nat} {v : Value} {n : Nat} {xs : List Value} {w w1 : World} (h : w.ownsRow base e size v n xs) (hb : Below w.heap.size w w1) : w1.ownsRow base e size v n xs := by
  obtain ⟨hl, h | ⟨g, cap, cur, hv, hg, hh, h1, h2, h3, h4⟩⟩ := h
  · exact ⟨hl, .inl h⟩
  · have hlt : g < w.heap.size := (Array.getElem?_eq_some_iff.1 hh).1
    exact ⟨hl, .inr ⟨g, cap, cur, hv, hg, (hb.block g hlt).trans hh, h1, h2, h3, h4⟩⟩
theorem owns_set {base : Nat} {e : TypeId} {size : Nat} {v : Value} {n : Nat} {xs : List Value} {w : World} (h : w.ownsRow base e size v n xs) {p : Addr} (hp : p.block < base) (u : Value) : (w.setCell p u).ownsRow base e size v n xs := by
  obtain ⟨hl, h | ⟨g, cap, cur, hv, hg, hh, h1, h2, h3, h4⟩⟩ := h
  · exact ⟨hl, .inl h⟩
  · exact ⟨hl, .inr ⟨g, cap, cur, hv, hg, (Below.heap_setCell w p u g (by omega)).trans hh, h1, h2, h3, h4⟩⟩
end Go.Proofs.YtdfconiahfdhbaaDoor
