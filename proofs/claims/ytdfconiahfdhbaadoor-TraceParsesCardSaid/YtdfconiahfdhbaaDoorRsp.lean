/-
  The reference's split.
-/
import Derived.Test.YtdfconiahfdhbaaDoorTxp
import Derived.Test.YtdfconiahfdhbaaDoorRnu
import Derived.RangeFuncBox
import Derived.Maps.AppendAt
namespace Go.Proofs.YtdfconiahfdhbaaDoor
open Go.RowKit
attribute [local go_sem ↓] Go.wp_at_zero Go.wp_at_succ

/-- a slice of strings -/
def Strs (w : World) (A : Option Addr) (l : List (List UInt8)) : Prop := ∀ (j : Nat) x, l[j]? = some x → ∃ ad, A = some ad ∧ ad.block < w.heap.size ∧ w.cell? (ad.add j) = some (.string ⟨x.toArray⟩)
theorem Strs.next {w w' : World} {A : Option Addr} {l : List (List UInt8)} (h : Strs w A l) (hb : Below w.heap.size w w') : Strs w' A l := fun j x hj => by
  obtain ⟨ad, ea, hl, hc⟩ := h j x hj
  exact ⟨ad, ea, Nat.lt_of_lt_of_le hl hb.size, (hb.cell (by rw [block_of_add]; exact hl)).trans hc⟩
def strsV (l : List (List UInt8)) : List Value := l.map fun x => .string ⟨x.toArray⟩
theorem Strs.of_own {w : World} {base e n : Nat} {v : Value} {l : List (List UInt8)} (h : w.ownsRow base e 1 v n (strsV l)) : ∃ A cap, v = .slice A l.length cap ∧ l.length ≤ cap ∧ Strs w A l := by
  have hn : l.length = n := by have := h.1; simpa [strsV] using this
  have H := h
  obtain ⟨hl, ⟨rfl, hx⟩ | ⟨g, cap, cur, rfl, hg, hh, h1, h2, h3, h4⟩⟩ := h
  · have hn0 : l = [] := List.eq_nil_of_length_eq_zero (hn.trans hx)
    subst hn0
    exact ⟨none, 0, rfl, by simp, fun j x hj => by simp at hj⟩
  · have hlt : g < w.heap.size := (Array.getElem?_eq_some_iff.1 hh).1
    refine ⟨_, cap, by rw [hn], by omega, fun j x hj => ⟨⟨g, 0, none⟩, rfl, hlt, ?_⟩⟩
    exact H.cells (g := g) rfl _ _ (by simp [strsV, hj])
theorem info9 : (Tryd.prog.info? 9).map (fun i => (i.zero, i.size, i.bytes)) = some (some (.string ⟨#[]⟩), 1, 16) := by kernel_rfl
/-- the text that a list of pieces came of, with the mark behind each -/
def marked (c : UInt8) (l : List (List UInt8)) : List UInt8 := l.flatMap fun x => x ++ [c]
theorem marked_snoc (c : UInt8) (l : List (List UInt8)) (x : List UInt8) : marked c (l ++ [x]) = marked c l ++ (x ++ [c]) := by unfold marked; simp
theorem marked_uniq {c : UInt8} : ∀ {l m : List (List UInt8)}, (∀ x ∈ l, c ∉ x) → (∀ x ∈ m, c ∉ x) → marked c l = marked c m → l = m
  | [], [], _, _, _ => rfl
  | [], y :: m, _, _, h => by simp [marked] at h
  | x :: l, [], _, _, h => by simp [marked] at h
  | x :: l, y :: m, hl, hm, h => by
    have e : ∀ (z : List UInt8) (k : List (List UInt8)), marked c (z :: k) = z ++ c :: marked c k := fun z k => by unfold marked; simp
    rw [e, e] at h
    obtain ⟨h1, h2⟩ := cut_uniq (hl x (by simp)) (hm y (by simp)) h
    rw [h1, marked_uniq (fun z hz => hl z (by simp [hz])) (fun z hz => hm z (by simp [hz])) h2]
/-- what split hands back -/
def SplitP (s : List UInt8) (c : UInt8) (w : World) (e : Ending) (w' : World) : Prop := ∃ (l : List (List UInt8)) (A : Option Addr) (cap : Nat), e = .returned (.slice A l.length cap) ∧ l.length ≤ cap ∧ (∀ x ∈ l, c ∉ x) ∧ marked c l = s ++ [c] ∧ Strs w' A l ∧ Below w.heap.size w w'
/-- the part that lies between two places -/
theorem ext_data (s : ByteArray) (j i : Nat) : (s.extract j i).data.toList = (s.data.toList.take i).drop j := by rw [Lib.extract_data, List.drop_take]
theorem ext_is (s : ByteArray) (j i : Nat) : s.extract j i = ⟨((s.data.toList.take i).drop j).toArray⟩ := bytes_inj (ext_data s j i)
theorem take_mid (l : List UInt8) {a b : Nat} (h : a ≤ b) : l.take a ++ (l.take b).drop a = l.take b := by
  have := List.take_append_drop a (l.take b)
  rwa [List.take_take, Nat.min_eq_left h] at this
theorem take_drop_snoc (s : ByteArray) (j i : Nat) (hj : j ≤ i) (hi : i < s.size) : (s.data.toList.take (i + 1)).drop j = (s.data.toList.take i).drop j ++ [s[i]] := by
  rw [take_snoc s i hi, List.drop_append_of_le_length (by simp; omega)]
structure SpI (w : World) (s : ByteArray) (c : UInt8) (l : List (List UInt8)) (j i : Nat) (v : Value) (W : World) : Prop where
  below : Below w.heap.size w W
  own : W.ownsRow w.heap.size 9 1 v l.length (strsV l)
  no : ∀ x ∈ l, c ∉ x
  ji : j ≤ i
  mrk : marked c l = s.data.toList.take j
  cur : c ∉ (s.data.toList.take i).drop j
  len : l.length ≤ j
set_option maxRecDepth 100000 in
set_option maxHeartbeats 2000000 in
theorem rsplit_c (s : ByteArray) (hs : s.size ≤ 100000) (c : UInt8) (w : World) : Calls Tryd.prog 38 #[.string s, .int .u8 c.toNat] w (SplitP s.data.toList c w) := by
  obtain ⟨i9, hi, hz0, hz1, hz2⟩ := info_parts info9
  have hdl := dlen s
  have hsI : (s.size : Int) ≤ 100000 := by omega
  have HDL := Lib.hid hdl
  clear hdl
  go_enter Tryd.func38, Tryd.ntmps38
  go_wp2_with fail
  go_loopw [5, 6, 7] (fun v st i wr => ∃ (l : List (List UInt8)) (a b : Nat), st = .int .i64 a ∧ i = .int .i64 b ∧ ((b ≤ s.size ∧ SpI w s c l a b v wr) ∨ (b = s.size + 1 ∧ wr.ownsRow w.heap.size 9 1 v l.length (strsV l) ∧ Below w.heap.size w wr ∧ (∀ x ∈ l, c ∉ x) ∧ marked c l = s.data.toList ++ [c]))) (fun _ _ i _ => s.size + 1 - (intOf i).toNat)
  case atStart => exact ⟨[], 0, 0, rfl, rfl, .inl ⟨by omega, Below.refl _ _, World.ownsRow_nil _ _ _ _, (fun x hx => by cases hx), by omega, by simp [marked], by simp, by simp⟩⟩
  case round =>
    obtain ⟨l, a, b, rfl, rfl, ⟨hb, K⟩ | ⟨rfl, hown, hbl, hno, hmk⟩⟩ := hrel
    · by_cases hlt : b < s.size
      · have hbI : ¬ (b : Int) = (s.size : Int) := by omega
        by_cases hc : s[b] = c
        · have e1 : ((s[b].toNat : Int) == (c.toNat : Int)) = true := by rw [hc]; simp
          have hown := K.own
          have HK := Lib.hid K
          have hal : l.length ≤ 100000 := by have := K.len; have := K.ji; omega
          have hji := K.ji
          have hz := K.below.size
          clear K
          go_wp2_with (at_builtin; refine wpList_append_own _ rfl _ _ 82 rfl w.heap.size 9 i9 _ 1 16 Tryd.underlying82 hi hz0 hz1 hz2 rfl (by decide) _ _ _ rfl (hown.alloc _) ⟨wr.heap.size, 0, none⟩ 1 1 [.string (s.extract a b)] rfl rfl (cell_one_new _ _ _) (by intro u hu; simp at hu; subst hu; rfl) (by unfold maxLen; omega) (by omega) (by simp; omega) ?_; intro v1 w1 hown1 hgrow1 hnil1)
          have hown2 : w1.ownsRow w.heap.size 9 1 v1 (l ++ [(s.data.toList.take b).drop a]).length (strsV (l ++ [(s.data.toList.take b).drop a])) := by
            rw [ext_is] at hown1
            simpa [strsV] using hown1
          have hb1 : Below w.heap.size w w1 := (HK.out.below.alloc hz _).grown hgrow1 (by simp; omega) (fun j e => (hown.lt _ e).1)
          go_roundw
          case rel => exact ⟨l ++ [(s.data.toList.take b).drop a], b + 1, b + 1, by go_num, by go_num, .inl ⟨by omega, hb1, hown2, (by
            intro x hx
            rcases List.mem_append.1 hx with hx | hx
            · exact HK.out.no x hx
            · rw [List.mem_singleton.1 hx]; exact HK.out.cur), Nat.le_refl _, (by
              rw [marked_snoc, HK.out.mrk, ← List.append_assoc, take_snoc s b hlt, hc, take_mid _ hji]), (by rw [List.drop_eq_nil_of_le (by simp; omega)]; simp), (by simp; have := HK.out.len; omega)⟩⟩
          case measure => simp [intOf]; omega
        · have e1 : ((s[b].toNat : Int) == (c.toNat : Int)) = false := by
            have : s[b].toNat ≠ c.toNat := fun e => hc (UInt8.toNat_inj.1 e)
            simp; omega
          have HK := Lib.hid K
          clear K
          go_wp2_with fail
          go_roundw
          case rel => exact ⟨l, a, b + 1, rfl, by go_num, .inl ⟨by omega, HK.out.below, HK.out.own, HK.out.no, by have := HK.out.ji; omega, HK.out.mrk, (by
            rw [take_drop_snoc s a b HK.out.ji hlt]
            intro h
            rcases List.mem_append.1 h with h | h
            · exact HK.out.cur h
            · exact hc (List.mem_singleton.1 h).symm), HK.out.len⟩⟩
          case measure => simp [intOf]; omega
      · obtain rfl : b = s.size := by omega
        have hown := K.own
        have HK := Lib.hid K
        have hal : l.length ≤ 100000 := by have := K.len; have := K.ji; omega
        have hji := K.ji
        have hz := K.below.size
        clear K
        go_wp2_with (at_builtin; refine wpList_append_own _ rfl _ _ 82 rfl w.heap.size 9 i9 _ 1 16 Tryd.underlying82 hi hz0 hz1 hz2 rfl (by decide) _ _ _ rfl (hown.alloc _) ⟨wr.heap.size, 0, none⟩ 1 1 [.string (s.extract a s.size)] rfl rfl (cell_one_new _ _ _) (by intro u hu; simp at hu; subst hu; rfl) (by unfold maxLen; omega) (by omega) (by simp; omega) ?_; intro v1 w1 hown1 hgrow1 hnil1)
        have hown2 : w1.ownsRow w.heap.size 9 1 v1 (l ++ [(s.data.toList.take s.size).drop a]).length (strsV (l ++ [(s.data.toList.take s.size).drop a])) := by
          rw [ext_is] at hown1
          simpa [strsV] using hown1
        have hb1 : Below w.heap.size w w1 := (HK.out.below.alloc hz _).grown hgrow1 (by simp; omega) (fun j e => (hown.lt _ e).1)
        go_roundw
        case rel => exact ⟨l ++ [(s.data.toList.take s.size).drop a], _, s.size + 1, rfl, by go_num, .inr ⟨rfl, hown2, hb1, (by
          intro x hx
          rcases List.mem_append.1 hx with hx | hx
          · exact HK.out.no x hx
          · rw [List.mem_singleton.1 hx]; exact HK.out.cur), (by
            have hf : s.data.toList.take s.size = s.data.toList := List.take_of_length_le (by rw [HDL.out]; omega)
            have h2 := HK.out.mrk
            rw [marked_snoc, h2, ← List.append_assoc, hf, List.take_append_drop])⟩⟩
        case measure => simp [intOf]
    · go_wp2_with fail
      go_ret
      obtain ⟨A, cap, rfl, hcap, hS⟩ := Strs.of_own hown
      exact ⟨l, A, cap, rfl, hcap, hno, hmk, hS, hbl⟩
end Go.Proofs.YtdfconiahfdhbaaDoor
