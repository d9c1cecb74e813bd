/-
  The order of the schedules: each has a number, and the next one the next number. Plain.
-/
import Derived.Lib.Hide
namespace Go.Proofs.YtabfjiapoafgaaaDoor

/-- a list of digits as a number -/
def valN (b : Nat) (l : List Nat) : Nat := l.foldl (fun a x => a * b + x) 0
/-- how many lists are shorter than n -/
def offN (b : Nat) : Nat → Nat
  | 0 => 0
  | n + 1 => offN b n + b ^ n
theorem valN_snoc (b : Nat) (l : List Nat) (x : Nat) : valN b (l ++ [x]) = valN b l * b + x := by unfold valN; simp
theorem valN_rep0 (b : Nat) (l : List Nat) : ∀ k, valN b (l ++ List.replicate k 0) = valN b l * b ^ k
  | 0 => by simp
  | k + 1 => by
    rw [List.replicate_succ', ← List.append_assoc, valN_snoc, valN_rep0 b l k, Nat.pow_succ, Nat.mul_assoc, Nat.add_zero]
theorem valN_repm (m : Nat) (l : List Nat) : ∀ k, valN (m + 1) (l ++ List.replicate k m) + 1 = (valN (m + 1) l + 1) * (m + 1) ^ k
  | 0 => by simp
  | k + 1 => by
    have h := valN_repm m l k
    rw [List.replicate_succ', ← List.append_assoc, valN_snoc, Nat.pow_succ, ← Nat.mul_assoc, ← h, Nat.add_mul]
    omega
/-- digits of at most m -/
def Dig (m : Nat) (l : List Nat) : Prop := ∀ x ∈ l, x ≤ m
theorem Dig.app {m : Nat} {l r : List Nat} (h : Dig m (l ++ r)) : Dig m l ∧ Dig m r := ⟨fun x hx => h x (by simp [hx]), fun x hx => h x (by simp [hx])⟩
theorem valN_lt {m : Nat} (l : List Nat) (h : Dig m l) : valN (m + 1) l < (m + 1) ^ l.length := by
  induction hl : l.length generalizing l with
  | zero => rw [List.eq_nil_of_length_eq_zero hl]; simp [valN]
  | succ n ih =>
    obtain ⟨i, x, rfl⟩ : ∃ i x, l = i ++ [x] := by
      rcases List.eq_nil_or_concat l with h0 | ⟨a, b, h0⟩
      · subst h0; simp at hl
      · exact ⟨a, b, by rw [h0, List.concat_eq_append]⟩
    rw [List.length_append, List.length_singleton] at hl
    have h1 := ih i h.app.1 (by omega)
    have h2 := h x (by simp)
    rw [valN_snoc, Nat.pow_succ]
    have h3 : (valN (m + 1) i + 1) * (m + 1) ≤ (m + 1) ^ n * (m + 1) := Nat.mul_le_mul_right _ h1
    rw [Nat.add_mul] at h3
    omega
theorem valN_inj {m : Nat} : ∀ (n : Nat) (l r : List Nat), l.length = n → r.length = n → Dig m l → Dig m r → valN (m + 1) l = valN (m + 1) r → l = r
  | 0, l, r, hl, hr, _, _, _ => by rw [List.eq_nil_of_length_eq_zero hl, List.eq_nil_of_length_eq_zero hr]
  | n + 1, l, r, hl, hr, dl, dr, h => by
    have snoc : ∀ l : List Nat, l.length = n + 1 → ∃ i x, l = i ++ [x] := fun l hl => by
      rcases List.eq_nil_or_concat l with h0 | ⟨a, b, h0⟩
      · subst h0; simp at hl
      · exact ⟨a, b, by rw [h0, List.concat_eq_append]⟩
    obtain ⟨i, x, rfl⟩ := snoc l hl
    obtain ⟨j, y, rfl⟩ := snoc r hr
    rw [List.length_append, List.length_singleton] at hl hr
    have hx := dl x (by simp)
    have hy := dr y (by simp)
    rw [valN_snoc, valN_snoc] at h
    have h1 : x = y := by
      have h2 : (valN (m + 1) i * (m + 1) + x) % (m + 1) = (valN (m + 1) j * (m + 1) + y) % (m + 1) := by rw [h]
      rw [Nat.mul_add_mod_of_lt (by omega), Nat.mul_add_mod_of_lt (by omega)] at h2
      exact h2
    subst h1
    have h2 : valN (m + 1) i * (m + 1) = valN (m + 1) j * (m + 1) := by omega
    have h3 := Nat.eq_of_mul_eq_mul_right (by omega : 0 < m + 1) h2
    rw [valN_inj n i j (by omega) (by omega) dl.app.1 dr.app.1 h3]
/-- l is schedule number k -/
structure IsK (m k : Nat) (l : List Nat) : Prop where
  dig : Dig m l
  num : offN (m + 1) l.length + valN (m + 1) l = k
theorem offN_mono {b : Nat} (n : Nat) : ∀ d, offN b n ≤ offN b (n + d)
  | 0 => Nat.le_refl _
  | d + 1 => by
    have := offN_mono (b := b) n d
    show _ ≤ offN b (n + d) + b ^ (n + d)
    omega
theorem IsK.zero (m : Nat) : IsK m 0 [] := ⟨fun x h => (by cases h), rfl⟩
theorem IsK.bound {m k : Nat} {l : List Nat} (h : IsK m k l) : offN (m + 1) l.length ≤ k ∧ k < offN (m + 1) (l.length + 1) := by
  have h1 := valN_lt l h.dig
  have h2 := h.num
  show _ ∧ k < offN (m + 1) l.length + (m + 1) ^ l.length
  omega
theorem IsK.len {m k : Nat} {l : List Nat} (h : IsK m k l) (f : Nat) : l.length ≤ f ↔ k < offN (m + 1) (f + 1) := by
  obtain ⟨h1, h2⟩ := h.bound
  constructor
  · intro hl
    obtain ⟨d, rfl⟩ := Nat.le.dest hl
    have := offN_mono (b := m + 1) (l.length + 1) d
    rw [show l.length + 1 + d = l.length + d + 1 from by omega] at this
    omega
  · intro hk
    by_cases q : l.length ≤ f
    · exact q
    · obtain ⟨d, hd⟩ := Nat.le.dest (show f + 1 ≤ l.length from by omega)
      have := offN_mono (b := m + 1) (f + 1) d
      rw [hd] at this
      omega
theorem IsK.uniq {m k : Nat} {l r : List Nat} (h : IsK m k l) (h' : IsK m k r) : l = r := by
  have h1 : l.length ≤ r.length := (h.len r.length).2 h'.bound.2
  have h2 : r.length ≤ l.length := (h'.len l.length).2 h.bound.2
  have hl : l.length = r.length := by omega
  refine valN_inj r.length l r hl rfl h.dig h'.dig ?_
  have e1 := h.num
  have e2 := h'.num
  rw [hl] at e1
  omega
theorem IsK.inc {m k x j : Nat} {p : List Nat} (h : IsK m k (p ++ x :: List.replicate j m)) (hx : x < m) : IsK m (k + 1) (p ++ (x + 1) :: List.replicate j 0) := by
  refine ⟨fun y hy => ?_, ?_⟩
  · rcases List.mem_append.1 hy with hy | hy
    · exact h.dig y (by simp [hy])
    · rcases List.mem_cons.1 hy with rfl | hy
      · omega
      · rw [List.eq_of_mem_replicate hy]; omega
  · have e1 := h.num
    have e2 := valN_repm m (p ++ [x]) j
    have e3 := valN_rep0 (m + 1) (p ++ [x + 1]) j
    rw [List.append_assoc, List.singleton_append] at e2 e3
    have e4 : valN (m + 1) (p ++ [x + 1]) = valN (m + 1) (p ++ [x]) + 1 := by rw [valN_snoc, valN_snoc]; omega
    rw [e4] at e3
    have e5 : (p ++ (x + 1) :: List.replicate j 0).length = (p ++ x :: List.replicate j m).length := by simp
    rw [e5, e3, ← e2]
    omega
theorem IsK.more {m k n : Nat} (h : IsK m k (List.replicate n m)) : IsK m (k + 1) (List.replicate (n + 1) 0) := by
  refine ⟨fun y hy => by rw [List.eq_of_mem_replicate hy]; omega, ?_⟩
  have e1 := h.num
  have e2 := valN_repm m [] n
  have e3 := valN_rep0 (m + 1) [] (n + 1)
  rw [List.nil_append] at e2 e3
  rw [List.length_replicate] at e1 ⊢
  have e4 : valN (m + 1) [] = 0 := rfl
  rw [e4] at e2 e3
  rw [e3]
  show offN (m + 1) n + (m + 1) ^ n + 0 * _ = _
  omega
/-- one more at the end of the digits that are at most -/
theorem rep_snoc (k m : Nat) : List.replicate k m ++ [m] = List.replicate (k + 1) m := by rw [List.replicate_succ']
theorem Dig.cases {m : Nat} (l : List Nat) (h : Dig m l) : l = List.replicate l.length m ∨ ∃ p x j, x < m ∧ l = p ++ x :: List.replicate j m := by
  induction hl : l.length generalizing l with
  | zero => left; rw [List.eq_nil_of_length_eq_zero hl]; rfl
  | succ n ih =>
    obtain ⟨i, x, rfl⟩ : ∃ i x, l = i ++ [x] := by
      rcases List.eq_nil_or_concat l with h0 | ⟨a, b, h0⟩
      · subst h0; simp at hl
      · exact ⟨a, b, by rw [h0, List.concat_eq_append]⟩
    rw [List.length_append, List.length_singleton] at hl
    have hx := h x (by simp)
    by_cases hlt : x < m
    · exact .inr ⟨i, x, 0, hlt, rfl⟩
    · obtain rfl : x = m := by omega
      rcases ih i h.app.1 (by omega) with e | ⟨p, y, j, hy, rfl⟩
      · left
        conv => lhs; rw [e]
        rw [rep_snoc]
      · exact .inr ⟨p, y, j + 1, hy, by rw [← rep_snoc]; simp⟩
/-- schedule number k, its periods -/
def Sched (m : Nat) (o : Int) (k : Nat) (r : List (Int × Int)) : Prop := ∃ es, IsK m k es ∧ r = es.map fun (x : Nat) => ((x : Int), o)
theorem Sched.uniq {m k : Nat} {o : Int} {r r' : List (Int × Int)} (h : Sched m o k r) (h' : Sched m o k r') : r = r' := by
  obtain ⟨es, h1, rfl⟩ := h
  obtain ⟨fs, h2, rfl⟩ := h'
  rw [h1.uniq h2]
theorem map_inj {o : Int} : ∀ {es fs : List Nat}, es.map (fun (x : Nat) => ((x : Int), o)) = fs.map (fun (x : Nat) => ((x : Int), o)) → es = fs
  | [], [], _ => rfl
  | [], _ :: _, h => by simp at h
  | _ :: _, [], h => by simp at h
  | x :: es, y :: fs, h => by
    simp only [List.map_cons, List.cons.injEq, Prod.mk.injEq] at h
    rw [map_inj h.2, show x = y from by omega]
theorem Sched.num {m k k' : Nat} {o : Int} {r : List (Int × Int)} (h : Sched m o k r) (h' : Sched m o k' r) : k = k' := by
  obtain ⟨es, h1, rfl⟩ := h
  obtain ⟨fs, h2, e⟩ := h'
  have := map_inj e
  subst this
  exact h1.num.symm.trans h2.num
/-- the first K schedules -/
structure FirstL (m : Nat) (o : Int) (K : Nat) (L : List (List (Int × Int))) : Prop where
  len : L.length = K
  at_ : ∀ j r, L[j]? = some r → Sched m o j r
theorem FirstL.nil (m : Nat) (o : Int) : FirstL m o 0 [] := ⟨rfl, fun j r h => by simp at h⟩
theorem FirstL.snoc {m K : Nat} {o : Int} {L : List (List (Int × Int))} (h : FirstL m o K L) {r : List (Int × Int)} (hr : Sched m o K r) : FirstL m o (K + 1) (L ++ [r]) :=
  ⟨by rw [List.length_append, h.len]; rfl, fun j x hx => by
    by_cases hj : j < L.length
    · rw [List.getElem?_append_left hj] at hx; exact h.at_ j x hx
    · rw [List.getElem?_append_right (by omega)] at hx
      have h0 : j - L.length = 0 := by have := (List.getElem?_eq_some_iff.1 hx).1; simp at this; omega
      rw [h0] at hx
      simp at hx
      subst hx
      rw [show j = K from by have := h.len; omega]
      exact hr⟩
theorem FirstL.uniq {m K : Nat} {o : Int} {L L' : List (List (Int × Int))} (h : FirstL m o K L) (h' : FirstL m o K L') : L = L' := by
  apply List.ext_getElem?
  intro j
  by_cases hj : j < K
  · have a := List.getElem?_eq_getElem (l := L) (i := j) (by rw [h.len]; exact hj)
    have b := List.getElem?_eq_getElem (l := L') (i := j) (by rw [h'.len]; exact hj)
    rw [a, b, (h.at_ j _ a).uniq (h'.at_ j _ b)]
  · rw [List.getElem?_eq_none (by rw [h.len]; omega), List.getElem?_eq_none (by rw [h'.len]; omega)]
/-- how many there are -/
def totalN (f m : Nat) : Nat := offN (m + 1) (f + 1)
theorem totalN_pos (f m : Nat) : 1 ≤ totalN f m := by
  have := offN_mono (b := m + 1) 1 f
  rw [Nat.add_comm 1 f] at this
  have h1 : offN (m + 1) 1 = 1 := by simp [offN]
  unfold totalN
  omega
theorem offN_ge (b : Nat) (hb : 1 ≤ b) : ∀ n, n ≤ offN b n
  | 0 => Nat.le_refl _
  | n + 1 => by
    have h1 := offN_ge b hb n
    have h2 : 1 ≤ b ^ n := Nat.one_le_pow _ _ hb
    show _ ≤ offN b n + b ^ n
    omega
/-- arguments that All takes -/
def okA (f m o : Int) : Bool := decide (0 ≤ f ∧ ((0 ≤ m ∧ m ≤ 1073741824) ∧ (1 ≤ o ∧ o ≤ 1099511627776)))
/-- how many schedules come out -/
def outN (f m o : Int) (lim : Nat) : Nat := if okA f m o = true then min lim (totalN f.toNat m.toNat) else 0
/-- the saturated number of schedules -/
def cntN (f m : Nat) : Nat := min (totalN f m) 4611686018427387904
def cntI (f m : Int) : Int := if 0 ≤ f ∧ (0 ≤ m ∧ m ≤ 1073741824) then (cntN f.toNat m.toNat : Int) else 0
theorem offN_one : ∀ n, offN 1 n = n
  | 0 => rfl
  | n + 1 => by show offN 1 n + 1 ^ n = _; rw [offN_one n, Nat.one_pow]
theorem cntN_zero (f : Nat) : cntN f 0 = min (f + 1) 4611686018427387904 := by unfold cntN totalN; rw [offN_one]
theorem offN_sat {b f j : Nat} (h : 4611686018427387904 ≤ offN b (j + 1)) (hj : j ≤ f) : min (offN b (f + 1)) 4611686018427387904 = 4611686018427387904 := by
  obtain ⟨d, rfl⟩ := Nat.le.dest hj
  have := offN_mono (b := b) (j + 1) d
  rw [show j + 1 + d = j + d + 1 from by omega] at this
  omega
end Go.Proofs.YtabfjiapoafgaaaDoor
