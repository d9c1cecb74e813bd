/-
  The reference's number and period.
-/
import Derived.Test.YtabfjiapoafgaaaDoorPrs
import Derived.BigRegion
namespace Go.Proofs.YtabfjiapoafgaaaDoor
open Go.RowKit
set_option linter.unusedVariables false
attribute [local go_sem ↓] Go.wp_at_zero Go.wp_at_succ

/-- what the reference's number hands back -/
def NumR (l : List UInt8) (v : Int) : Prop := (-1 ≤ v ∧ v < 10000000000000) ∧ ∀ x : Int, 0 ≤ x → x ≤ 1099511627776 → l = Lib.itoa x → v = x
theorem NumR.bad {l : List UInt8} (h : ∀ x : Int, 0 ≤ x → x ≤ 1099511627776 → l ≠ Lib.itoa x) : NumR l (-1) := ⟨by omega, fun x h0 h1 e => absurd e (h x h0 h1)⟩
theorem NumR.len {l : List UInt8} (hl : l.length < 1 ∨ 13 < l.length) : NumR l (-1) := NumR.bad fun x h0 h1 e => by
  rw [Dec.itoa_nonneg h0] at e
  have a := Dec.decDigits_len (u := x.toNat) (k := 12) (by omega)
  have b := Dec.decDigits_pos x.toNat
  rw [← e] at a b
  omega
theorem NumR.dig {l : List UInt8} (hl : l.all isDig = false) : NumR l (-1) := NumR.bad fun x h0 h1 e => by
  rw [Dec.itoa_nonneg h0] at e
  rw [e, dec_all] at hl
  cases hl
theorem NumR.val {l : List UInt8} {m : Nat} (hm : m = Dec.val 0 l) (hs : m < 10000000000000) : NumR l m := ⟨by omega, fun x h0 h1 e => by
  rw [Dec.itoa_nonneg h0] at e
  rw [hm, e, Dec.val_decDigits]
  omega⟩
theorem val_small' (t : ByteArray) (k n : Nat) (h : k ≤ n) (hd : (t.data.toList.take k).all isDig = true) : Dec.val 0 (t.data.toList.take k) < 10 ^ n := by
  have h1 := val_lt _ (by simpa using hd)
  have h2 : (t.data.toList.take k).length ≤ n := by simp; omega
  exact Nat.lt_of_lt_of_le h1 (Nat.pow_le_pow_right (by decide) h2)
def NumRP (l : List UInt8) (w : World) (e : Ending) (w' : World) : Prop := ∃ v : Int, e = .returned (.int .i64 v) ∧ NumR l v ∧ w' = w
set_option maxRecDepth 100000 in
set_option maxHeartbeats 2000000 in
theorem number_c (d : ByteArray) (hs : d.size ≤ 200000) (w : World) : Calls Tryd.prog 60 #[.string d] w (NumRP d.data.toList w) := by
  have hdl : d.data.toList.length = d.size := rfl
  by_cases h1 : d.size < 1
  · have h1' : (d.size : Int) < 1 := by omega
    have HN := Lib.hid (NumR.len (l := d.data.toList) (.inl (by omega)))
    go_enter Tryd.func60, Tryd.ntmps60
    go_wp2_with fail
    go_ret
    exact ⟨-1, rfl, HN.out, rfl⟩
  · by_cases h2 : 13 < d.size
    · have h1' : ¬ (d.size : Int) < 1 := by omega
      have h2' : (13 : Int) < (d.size : Int) := by omega
      have HN := Lib.hid (NumR.len (l := d.data.toList) (.inr (by omega)))
      go_enter Tryd.func60, Tryd.ntmps60
      go_wp2_with fail
      go_ret
      exact ⟨-1, rfl, HN.out, rfl⟩
    · have h1' : ¬ (d.size : Int) < 1 := by omega
      have h2' : ¬ (13 : Int) < (d.size : Int) := by omega
      have h13 : d.size ≤ 13 := by omega
      have HDL := Lib.hid hdl
      clear h1 h2 hdl
      go_enter Tryd.func60, Tryd.ntmps60
      go_wp2_with fail
      go_loopw [3, 4] (fun n i wr => ∃ k m : Nat, k ≤ d.size ∧ i = .int .i64 k ∧ n = .int .i64 m ∧ m = Dec.val 0 (d.data.toList.take k) ∧ (d.data.toList.take k).all isDig = true ∧ m < 10000000000000 ∧ (k < d.size → m < 1000000000000) ∧ wr = w) (fun _ i _ => d.size - (intOf i).toNat)
      case atStart => exact ⟨0, 0, by omega, rfl, rfl, rfl, rfl, by omega, fun _ => by omega, rfl⟩
      case round =>
        obtain ⟨k, m, hk, rfl, rfl, hm, hdg, hm13, hm12, rfl⟩ := hrel
        have HM := Lib.hid hm
        have HDG := Lib.hid hdg
        clear hm hdg
        by_cases hlt : k < d.size
        · have hmm := hm12 hlt
          clear hm12
          by_cases c1 : (d[k].toNat : Int) < 48
          · have HN := Lib.hid (NumR.dig (l := d.data.toList) (all_false d k hlt (.inl c1)))
            go_wp2_with fail
            go_ret
            exact ⟨-1, rfl, HN.out, rfl⟩
          · by_cases c2 : 57 < (d[k].toNat : Int)
            · have HN := Lib.hid (NumR.dig (l := d.data.toList) (all_false d k hlt (.inr c2)))
              go_wp2_with fail
              go_ret
              exact ⟨-1, rfl, HN.out, rfl⟩
            · have HAS := Lib.hid (all_snoc d k hlt (by omega) (by omega) HDG.out)
              have HVS := Lib.hid (val_snoc d k hlt)
              go_wp2_with fail
              go_roundw
              case rel => exact ⟨k + 1, m * 10 + (d[k].toNat - 48), by omega, by go_num, by go_num, by rw [HVS.out, HM.out], HAS.out, by rw [HM.out, ← HVS.out]; exact val_small' d _ 13 (by omega) HAS.out, fun hk2 => by rw [HM.out, ← HVS.out]; exact val_small' d _ 12 (by omega) HAS.out, trivial⟩
              case measure => simp [intOf]; omega
        · obtain rfl : k = d.size := by omega
          have HN := Lib.hid (NumR.val (l := d.data.toList) (m := m) (by rw [HM.out, List.take_of_length_le (by rw [HDL.out]; exact Nat.le_refl _)]) hm13)
          go_wp2_with fail
          go_ret
          exact ⟨m, rfl, HN.out, rfl⟩
/-- what the reference's period answers -/
def PerP (s : List UInt8) (w : World) (e : Ending) (w' : World) : Prop := ∃ (a b : Int) (ok : Bool), e = .returned (.tuple #[.agg #[.int .i64 a, .int .i64 b], .bool ok]) ∧ B64 a ∧ B64 b ∧ (ok = true → validP (a, b) = true ∧ wordT (a, b) = s) ∧ (ok = false → ∀ x : Int × Int, validP x = true → s ≠ wordT x) ∧ Below w.heap.size w w'
theorem no_word_r {p q : List UInt8} {a b : Int} (hp : (64 : UInt8) ∉ p) (ha : NumR p a) (hb : NumR q b) (h : validP (a, b) = true → wordT (a, b) ≠ p ++ 64 :: q) : ∀ x : Int × Int, validP x = true → p ++ 64 :: q ≠ wordT x := by
  intro x hx e
  have hv := validP_iff.1 hx
  have e2 : p ++ 64 :: q = Lib.itoa x.1 ++ 64 :: Lib.itoa x.2 := by rw [e]; unfold wordT; simp
  obtain ⟨e3, e4⟩ := cut_uniq hp (itoa_no64 _) e2
  have h1 := ha.2 x.1 (by omega) (by omega) e3
  have h2 := hb.2 x.2 (by omega) (by omega) e4
  subst h1
  subst h2
  exact h hx e.symm
theorem no_at {s : List UInt8} (h : (64 : UInt8) ∉ s) : ∀ x : Int × Int, validP x = true → s ≠ wordT x := by
  rintro x _ rfl
  exact h (by unfold wordT; simp)
theorem at_split (s : ByteArray) (k : Nat) (h : k < s.size) (hc : s[k] = 64) : s.data.toList = s.data.toList.take k ++ 64 :: s.data.toList.drop (k + 1) := by
  have h1 : s.data.toList.drop k = s[k] :: s.data.toList.drop (k + 1) := List.drop_eq_getElem_cons (by simpa using h)
  conv => lhs; rw [← List.take_append_drop k s.data.toList]
  rw [h1, hc]
theorem take_k (s : ByteArray) (k : Nat) : (s.extract 0 k).data.toList = s.data.toList.take k := by
  rw [Lib.extract_data]
  simp
/-- the two cells of a period, and the result's -/
structure QX (w0 : World) (X : Nat) (v1 v2 : Int) (W : World) : Prop where
  below : Below w0.heap.size w0 W
  lt : X < W.heap.size
  gt : w0.heap.size < X
  x0 : W.cell? ⟨X, 0, none⟩ = some (.int .i64 v1)
  x1 : W.cell? ⟨X, 1, none⟩ = some (.int .i64 v2)
  r0 : W.cell? ⟨w0.heap.size, 0, none⟩ = some (.int .i64 0)
  r1 : W.cell? ⟨w0.heap.size, 1, none⟩ = some (.int .i64 0)
  f0 : W.frozen? ⟨w0.heap.size, 0, none⟩ = false
  f1 : W.frozen? ⟨w0.heap.size, 1, none⟩ = false
theorem QX.next {w0 W W' : World} {X : Nat} {v1 v2 : Int} (h : QX w0 X v1 v2 W) (hb : Below W.heap.size W W') : QX w0 X v1 v2 W' := by
  obtain ⟨hc, hf⟩ := bcell hb
  have h1 := h.lt
  have h2 := h.gt
  exact ⟨bt h.below hb, Nat.lt_of_lt_of_le h1 hb.size, h2, (hc _ _ h1).trans h.x0, (hc _ _ h1).trans h.x1, (hc _ _ (by omega)).trans h.r0, (hc _ _ (by omega)).trans h.r1, (hf _ _ (by omega)).trans h.f0, (hf _ _ (by omega)).trans h.f1⟩
theorem QX.start {w0 wr : World} (hb : Below w0.heap.size w0 wr) (hs : w0.heap.size < wr.heap.size) (r0 : wr.cell? ⟨w0.heap.size, 0, none⟩ = some (.int .i64 0)) (r1 : wr.cell? ⟨w0.heap.size, 1, none⟩ = some (.int .i64 0)) (f0 : wr.frozen? ⟨w0.heap.size, 0, none⟩ = false) (f1 : wr.frozen? ⟨w0.heap.size, 1, none⟩ = false) (v1 v2 : Int) : QX w0 wr.heap.size v1 v2 (wr.alloc (.cells #[.int .i64 v1, .int .i64 v2] 38)).drew := by
  obtain ⟨hc, hf⟩ := bcell (bt (ba wr (.cells #[.int .i64 v1, .int .i64 v2] 38)) (World.drewB _))
  exact ⟨bt hb (bt (ba wr _) (World.drewB _)), by simp, hs, ((World.drewB _).cell (p := ⟨wr.heap.size, 0, none⟩) (by simp)).trans (new_period wr v1 v2 38).1, ((World.drewB _).cell (p := ⟨wr.heap.size, 1, none⟩) (by simp)).trans (new_period wr v1 v2 38).2, (hc _ _ hs).trans r0, (hc _ _ hs).trans r1, (hf _ _ hs).trans f0, (hf _ _ hs).trans f1⟩
theorem QX.hold {w0 W : World} {X : Nat} {v1 v2 : Int} (h : QX w0 X v1 v2 W) (u u' : Value) : ((W.setCell ⟨w0.heap.size, 0, none⟩ u).setCell ⟨w0.heap.size, 1, none⟩ u').cell? ⟨X, 0, none⟩ = some (.int .i64 v1) ∧ ((W.setCell ⟨w0.heap.size, 0, none⟩ u).setCell ⟨w0.heap.size, 1, none⟩ u').cell? ⟨X, 1, none⟩ = some (.int .i64 v2) := by
  have hne : ∀ i j, (⟨w0.heap.size, i, none⟩ : Addr) ≠ ⟨X, j, none⟩ := fun i j e => by have h1 := congrArg Addr.block e; have h2 := h.gt; simp only at h1; omega
  refine ⟨?_, ?_⟩ <;> rw [World.cell?_setCell_other _ _ _ _ (hne _ _), World.cell?_setCell_other _ _ _ _ (hne _ _)]
  · exact h.x0
  · exact h.x1
theorem Prs.one (w : World) (a b : Int) : Prs (w.alloc (.cells #[.int .i64 a, .int .i64 b] 38)) (some ⟨w.heap.size, 0, none⟩) [(a, b)] :=
  ⟨fun j x hj => by
    match j with
    | 0 =>
      simp at hj
      subst hj
      exact ⟨_, rfl, by simp, (new_period w a b 38).1, (new_period w a b 38).2⟩
    | j + 1 => simp at hj⟩
theorem rformat_one (a b : Int) (w : World) : Calls Tryd.prog 16 #[.slice (some ⟨w.heap.size, 0, none⟩) 1 1] (w.alloc (.cells #[.int .i64 a, .int .i64 b] 38)) fun e w' => e = .returned (.string ⟨(fmtV [(a, b)]).toArray⟩) ∧ Below (w.alloc (.cells #[.int .i64 a, .int .i64 b] 38)).heap.size (w.alloc (.cells #[.int .i64 a, .int .i64 b] 38)) w' := rformat_c [(a, b)] (by simp) _ 1 _ (Prs.one w a b)
theorem fmt_one {x : Int × Int} (h : validP x = true) : fmtV [x] = wordT x := by
  rw [fmtV_t (by unfold validL; simp [h])]
  unfold fmtT
  rw [List.map_cons, List.map_nil, join_one]
set_option maxRecDepth 100000 in
set_option maxHeartbeats 2000000 in
theorem period_c (s : ByteArray) (hs : s.size ≤ 100000) (w : World) : Calls Tryd.prog 44 #[.string s] w (PerP s.data.toList w) := by
  have hsl : s.data.toList.length = s.size := rfl
  go_enter Tryd.func44, Tryd.ntmps44
  go_wp2_with fail
  have R0 := new_period w 0 0 38
  have hb0 := ba w (.cells #[.int .i64 0, .int .i64 0] 38)
  have hf0 : ∀ i, (w.alloc (.cells #[.int .i64 0, .int .i64 0] 38)).frozen? ⟨w.heap.size, i, none⟩ = false := fun i => World.frozen?_alloc_at _ _ _ _ rfl
  have hs0 : w.heap.size < (w.alloc (.cells #[.int .i64 0, .int .i64 0] 38)).heap.size := by simp
  generalize hW0 : w.alloc (.cells #[.int .i64 0, .int .i64 0] 38) = W0 at *
  clear hW0
  obtain ⟨r0, r1⟩ := R0
  have HFR := Lib.hid hf0
  have f0 := hf0 0
  have f1 := hf0 1
  have HB0 := Lib.hid hb0
  clear hf0 hb0
  go_loopw [4] (fun i wr => ∃ k : Nat, k ≤ s.size ∧ i = .int .i64 k ∧ (64 : UInt8) ∉ s.data.toList.take k ∧ wr = W0) (fun i _ => s.size - (intOf i).toNat)
  case atStart => exact ⟨0, by omega, rfl, by simp, rfl⟩
  case round =>
    obtain ⟨k, hk, rfl, hno, rfl⟩ := hrel
    have HNO := Lib.hid hno
    clear hno
    by_cases hlt : k < s.size
    · by_cases hc : s[k] = 64
      · have hc1 : ((s[k].toNat : Int) == 64) = true := by rw [hc]; rfl
        have HSP := Lib.hid (at_split s k hlt hc)
        have HT := Lib.hid (take_k s k)
        have HD := Lib.hid (drop_k s (k + 1))
        have hz1 : (s.extract 0 k).size ≤ 200000 := by simp; omega
        have hz2 : (s.extract (k + 1) s.size).size ≤ 200000 := by simp; omega
        have HN1 := Lib.hid (fun W => number_c (s.extract 0 k) hz1 W)
        have HN2 := Lib.hid (fun W => number_c (s.extract (k + 1) s.size) hz2 W)
        rw [HT.out] at HN1
        rw [HD.out] at HN2
        clear hc hz1 hz2
        have hwk : IntKind.i64.wrap ((k : Int) + 1) = (k : Int) + 1 := IntWalk.i64_in _ (by omega)
        have htn : ((k : Int) + 1).toNat = k + 1 := by omega
        have hk1 : (k : Int) + 1 ≤ (s.size : Int) := by omega
        have hk2 : k + 1 ≤ s.size := by omega
        go_wp2_with fail
        go_region_with (first
          | (go_at_call 60; (with_reducible refine (HN1.out _).mono ?_); rintro e w1 ⟨v1, rfl, hv1, rfl⟩)
          | (go_at_call 60; (with_reducible refine (HN2.out _).mono ?_); rintro e w2 ⟨v2, rfl, hv2, rfl⟩))
        -- region 6
        all_goals
          have HV1 := Lib.hid hv1
          have HV2 := Lib.hid hv2
          clear hv1 hv2
          have K := QX.start HB0.out hs0 r0 r1 f0 f1 v1 v2
          have HNW := Lib.hid (no_word_r (p := s.data.toList.take k) (q := s.data.toList.drop (k + 1)) HNO.out HV1.out HV2.out)
          rw [← HSP.out] at HNW
          go_wp2_with fail
          generalize wr.heap.size = X at *
          generalize (wr.alloc (.cells #[.int .i64 v1, .int .i64 v2] 38)).drew = W at *
          clear r0 r1 f0 f1 hs0
          replace K := K.next (World.drewB _)
          cases hq : validP (v1, v2)
          · have HQ := Lib.hid hq
            have HBAD := Lib.hid (HNW.out (fun h => by rw [hq] at h; cases h))
            clear hq
            refine wp_region_held_drew (S := (fun w' => w'.cell? ⟨X, 0, none⟩ = some (.int .i64 v1) ∧ w'.cell? ⟨X, 1, none⟩ = some (.int .i64 v2))) (by kernel_rfl) ?_ (fun hHeld => ?_)
            · first | exact ⟨K.x0, K.x1⟩ | exact K.hold _ _
            change wpAnyH _ _ _ _ _ 12 #[false, false, false, false, false, false, false, false, false, false, false, false] _ _
            refine wpAnyH_take (i := 0) (oi := ⟨some 26, _, _, _, _, _⟩) (v := ?_) rfl (by kernel_rfl) (by kernel_rfl) (by kernel_rfl) (fun _ _ _ h => h) (Or.inl ⟨by rfl, ?_⟩) (by assumption) ?_
            rotate_left
            · first | (intro w hSw; (try dsimp only at hSw); go_simp; done) | (intro w hSw; (try dsimp only at hSw); go_simp; with_reducible rfl)
            try simp only [Act.put, List.setIfInBounds_toArray, List.set_cons_zero, List.set_cons_succ]
            refine wpAnyH_take (i := 1) (oi := ⟨some 27, _, _, _, _, _⟩) (v := ?_) rfl (by kernel_rfl) (by kernel_rfl) (by kernel_rfl) (fun _ _ _ h => h) (Or.inl ⟨by rfl, ?_⟩) (by assumption) ?_
            rotate_left
            · first | (intro w hSw; (try dsimp only at hSw); go_simp; done) | (intro w hSw; (try dsimp only at hSw); go_simp; with_reducible rfl)
            try simp only [Act.put, List.setIfInBounds_toArray, List.set_cons_zero, List.set_cons_succ]
            refine wpAnyH_ready (rs := [2]) (by kernel_rfl) (by simp) (AllReadyH.cons (o := ⟨some 28, _, _, _, _, _⟩) rfl (fun KX hKX => ?_) AllReadyH.nil)
            go_simp
            (with_reducible refine (right_c v1 v2 _).mono ?_); rintro e w2 ⟨rfl, hb2⟩; rw [HQ.out]; replace K := K.next hb2; have r0 := K.r0; have r1 := K.r1; have f0 := K.f0; have f1 := K.f1; have x0 := K.x0; have x1 := K.x1
            refine hKX.out _ _ ?_ (fun hHeld => ?_)
            · first | exact ⟨K.x0, K.x1⟩ | exact K.hold _ _
            clear hKX KX
            try simp only [List.setIfInBounds_toArray, List.set_cons_zero, List.set_cons_succ]
            refine wpAnyH_take (i := 3) (oi := ⟨some 29, _, _, _, _, _⟩) (v := ?_) rfl (by kernel_rfl) (by kernel_rfl) (by kernel_rfl) (fun _ _ _ h => h) (Or.inl ⟨by rfl, ?_⟩) (by assumption) ?_
            rotate_left
            · first | (intro w hSw; (try dsimp only at hSw); go_simp; done) | (intro w hSw; (try dsimp only at hSw); go_simp; with_reducible rfl)
            try simp only [Act.put, List.setIfInBounds_toArray, List.set_cons_zero, List.set_cons_succ]
            refine wpAnyH_take (i := 4) (oi := ⟨some 30, _, _, _, _, _⟩) (v := undef) rfl (by kernel_rfl) (by kernel_rfl) (by kernel_rfl) (fun _ _ _ h => h) (Or.inr ⟨by rfl, rfl⟩) (by assumption) ?_
            try simp only [Act.put, List.setIfInBounds_toArray, List.set_cons_zero, List.set_cons_succ]
            refine wpAnyH_take (i := 5) (oi := ⟨some 31, _, _, _, _, _⟩) (v := undef) rfl (by kernel_rfl) (by kernel_rfl) (by kernel_rfl) (fun _ _ _ h => h) (Or.inr ⟨by rfl, rfl⟩) (by assumption) ?_
            try simp only [Act.put, List.setIfInBounds_toArray, List.set_cons_zero, List.set_cons_succ]
            refine wpAnyH_take (i := 6) (oi := ⟨some 32, _, _, _, _, _⟩) (v := undef) rfl (by kernel_rfl) (by kernel_rfl) (by kernel_rfl) (fun _ _ _ h => h) (Or.inr ⟨by rfl, rfl⟩) (by assumption) ?_
            try simp only [Act.put, List.setIfInBounds_toArray, List.set_cons_zero, List.set_cons_succ]
            refine wpAnyH_take (i := 7) (oi := ⟨some 33, _, _, _, _, _⟩) (v := undef) rfl (by kernel_rfl) (by kernel_rfl) (by kernel_rfl) (fun _ _ _ h => h) (Or.inr ⟨by rfl, rfl⟩) (by assumption) ?_
            try simp only [Act.put, List.setIfInBounds_toArray, List.set_cons_zero, List.set_cons_succ]
            refine wpAnyH_take (i := 8) (oi := ⟨some 34, _, _, _, _, _⟩) (v := undef) rfl (by kernel_rfl) (by kernel_rfl) (by kernel_rfl) (fun _ _ _ h => h) (Or.inr ⟨by rfl, rfl⟩) (by assumption) ?_
            try simp only [Act.put, List.setIfInBounds_toArray, List.set_cons_zero, List.set_cons_succ]
            refine wpAnyH_take (i := 9) (oi := ⟨some 35, _, _, _, _, _⟩) (v := ?_) rfl (by kernel_rfl) (by kernel_rfl) (by kernel_rfl) (fun _ _ _ h => h) (Or.inl ⟨by rfl, ?_⟩) (by assumption) ?_
            rotate_left
            · first | (intro w hSw; (try dsimp only at hSw); go_simp; done) | (intro w hSw; (try dsimp only at hSw); go_simp; with_reducible rfl)
            try simp only [Act.put, List.setIfInBounds_toArray, List.set_cons_zero, List.set_cons_succ]
            refine wpAnyH_ready (rs := [10]) (by kernel_rfl) (by simp) (AllReadyH.cons (o := ⟨none, _, _, _, _, _⟩) rfl (fun KX hKX => ?_) AllReadyH.nil)
            go_simp
            refine hKX.out _ _ ?_ (fun hHeld => ?_)
            · first | exact ⟨K.x0, K.x1⟩ | exact K.hold _ _
            clear hKX KX
            try simp only [List.setIfInBounds_toArray, List.set_cons_zero, List.set_cons_succ]
            refine wpAnyH_take (i := 11) (oi := ⟨some 3, _, _, _, _, _⟩) (v := ?_) rfl (by kernel_rfl) (by kernel_rfl) (by kernel_rfl) (fun _ _ _ h => h) (Or.inl ⟨by rfl, ?_⟩) (by assumption) ?_
            rotate_left
            · first | (intro w hSw; (try dsimp only at hSw); go_simp; done) | (intro w hSw; (try dsimp only at hSw); go_simp; with_reducible rfl)
            try simp only [Act.put, List.setIfInBounds_toArray, List.set_cons_zero, List.set_cons_succ]
            refine wpAnyH_done (by kernel_rfl) ?_ _
            go_wp2_with fail
            refine bodyPost_ret (v := .tuple #[.agg #[.int .i64 v1, .int .i64 v2], .bool false]) (by simp [results, Tryd.results44, go_sem, *]) rfl ?_
            exact ⟨v1, v2, false, rfl, ⟨by have := HV1.out.1; omega, by have := HV1.out.1; omega⟩, ⟨by have := HV2.out.1; omega, by have := HV2.out.1; omega⟩, (fun h => by cases h), (fun _ => HBAD.out), ((K.below.setCell (p := ⟨w.heap.size, 0, none⟩) (Nat.le_refl _) _).setCell (p := ⟨w.heap.size, 1, none⟩) (Nat.le_refl _) _)⟩
          · have HQ := Lib.hid hq
            clear hq
            by_cases hw : wordT (v1, v2) = s.data.toList
            · have HF := Lib.hid (show (⟨(fmtV [(v1, v2)]).toArray⟩ : ByteArray) = s from by rw [fmt_one HQ.out]; exact bytes_inj hw)
              have HW := Lib.hid (And.intro HQ.out hw)
              clear hw
              refine wp_region_held_drew (S := (fun w' => w'.cell? ⟨X, 0, none⟩ = some (.int .i64 v1) ∧ w'.cell? ⟨X, 1, none⟩ = some (.int .i64 v2))) (by kernel_rfl) ?_ (fun hHeld => ?_)
              · first | exact ⟨K.x0, K.x1⟩ | exact K.hold _ _
              change wpAnyH _ _ _ _ _ 12 #[false, false, false, false, false, false, false, false, false, false, false, false] _ _
              refine wpAnyH_take (i := 0) (oi := ⟨some 26, _, _, _, _, _⟩) (v := ?_) rfl (by kernel_rfl) (by kernel_rfl) (by kernel_rfl) (fun _ _ _ h => h) (Or.inl ⟨by rfl, ?_⟩) (by assumption) ?_
              rotate_left
              · first | (intro w hSw; (try dsimp only at hSw); go_simp; done) | (intro w hSw; (try dsimp only at hSw); go_simp; with_reducible rfl)
              try simp only [Act.put, List.setIfInBounds_toArray, List.set_cons_zero, List.set_cons_succ]
              refine wpAnyH_take (i := 1) (oi := ⟨some 27, _, _, _, _, _⟩) (v := ?_) rfl (by kernel_rfl) (by kernel_rfl) (by kernel_rfl) (fun _ _ _ h => h) (Or.inl ⟨by rfl, ?_⟩) (by assumption) ?_
              rotate_left
              · first | (intro w hSw; (try dsimp only at hSw); go_simp; done) | (intro w hSw; (try dsimp only at hSw); go_simp; with_reducible rfl)
              try simp only [Act.put, List.setIfInBounds_toArray, List.set_cons_zero, List.set_cons_succ]
              refine wpAnyH_ready (rs := [2]) (by kernel_rfl) (by simp) (AllReadyH.cons (o := ⟨some 28, _, _, _, _, _⟩) rfl (fun KX hKX => ?_) AllReadyH.nil)
              go_simp
              (with_reducible refine (right_c v1 v2 _).mono ?_); rintro e w2 ⟨rfl, hb2⟩; rw [HQ.out]; replace K := K.next hb2; have r0 := K.r0; have r1 := K.r1; have f0 := K.f0; have f1 := K.f1; have x0 := K.x0; have x1 := K.x1
              refine hKX.out _ _ ?_ (fun hHeld => ?_)
              · first | exact ⟨K.x0, K.x1⟩ | exact K.hold _ _
              clear hKX KX
              try simp only [List.setIfInBounds_toArray, List.set_cons_zero, List.set_cons_succ]
              refine wpAnyH_take (i := 3) (oi := ⟨some 29, _, _, _, _, _⟩) (v := ?_) rfl (by kernel_rfl) (by kernel_rfl) (by kernel_rfl) (fun _ _ _ h => h) (Or.inl ⟨by rfl, ?_⟩) (by assumption) ?_
              rotate_left
              · first | (intro w hSw; (try dsimp only at hSw); go_simp; done) | (intro w hSw; (try dsimp only at hSw); go_simp; with_reducible rfl)
              try simp only [Act.put, List.setIfInBounds_toArray, List.set_cons_zero, List.set_cons_succ]
              refine wpAnyH_take (i := 4) (oi := ⟨some 30, _, _, _, _, _⟩) (v := ?_) rfl (by kernel_rfl) (by kernel_rfl) (by kernel_rfl) (fun _ _ _ h => h) (Or.inl ⟨by rfl, ?_⟩) (by assumption) ?_
              rotate_left
              · first | (intro w hSw; (try dsimp only at hSw); go_simp; done) | (intro w hSw; (try dsimp only at hSw); go_simp; with_reducible rfl)
              try simp only [Act.put, List.setIfInBounds_toArray, List.set_cons_zero, List.set_cons_succ]
              refine wpAnyH_take (i := 7) (oi := ⟨some 33, _, _, _, _, _⟩) (v := ?_) rfl (by kernel_rfl) (by kernel_rfl) (by kernel_rfl) (fun _ _ _ h => h) (Or.inl ⟨by rfl, ?_⟩) (by assumption) ?_
              rotate_left
              · first | (intro w hSw; (try dsimp only at hSw); go_simp; done) | (intro w hSw; (try dsimp only at hSw); go_simp; with_reducible rfl)
              try simp only [Act.put, List.setIfInBounds_toArray, List.set_cons_zero, List.set_cons_succ]
              refine wpAnyH_ready (rs := [5]) (by kernel_rfl) (by simp) (AllReadyH.cons (o := ⟨some 31, _, _, _, _, _⟩) rfl (fun KX hKX => ?_) AllReadyH.nil)
              go_simp
              replace K := K.next (ba _ (.cells #[.int .i64 v1, .int .i64 v2] 38)); clear r0 r1 f0 f1 x0 x1
              refine hKX.out _ _ ?_ (fun hHeld => ?_)
              · first | exact ⟨K.x0, K.x1⟩ | exact K.hold _ _
              clear hKX KX
              try simp only [List.setIfInBounds_toArray, List.set_cons_zero, List.set_cons_succ]
              refine wpAnyH_ready (rs := [6]) (by kernel_rfl) (by simp) (AllReadyH.cons (o := ⟨some 32, _, _, _, _, _⟩) rfl (fun KX hKX => ?_) AllReadyH.nil)
              go_simp
              (with_reducible refine (rformat_one v1 v2 _).mono ?_); rintro e w4 ⟨rfl, hb4⟩; rw [HF.out]; replace K := K.next hb4; have r0 := K.r0; have r1 := K.r1; have f0 := K.f0; have f1 := K.f1; have x0 := K.x0; have x1 := K.x1
              refine hKX.out _ _ ?_ (fun hHeld => ?_)
              · first | exact ⟨K.x0, K.x1⟩ | exact K.hold _ _
              clear hKX KX
              try simp only [List.setIfInBounds_toArray, List.set_cons_zero, List.set_cons_succ]
              refine wpAnyH_take (i := 8) (oi := ⟨some 34, _, _, _, _, _⟩) (v := ?_) rfl (by kernel_rfl) (by kernel_rfl) (by kernel_rfl) (fun _ _ _ h => h) (Or.inl ⟨by rfl, ?_⟩) (by assumption) ?_
              rotate_left
              · first | (intro w hSw; (try dsimp only at hSw); go_simp; done) | (intro w hSw; (try dsimp only at hSw); go_simp; with_reducible rfl)
              try simp only [Act.put, List.setIfInBounds_toArray, List.set_cons_zero, List.set_cons_succ]
              refine wpAnyH_take (i := 9) (oi := ⟨some 35, _, _, _, _, _⟩) (v := ?_) rfl (by kernel_rfl) (by kernel_rfl) (by kernel_rfl) (fun _ _ _ h => h) (Or.inl ⟨by rfl, ?_⟩) (by assumption) ?_
              rotate_left
              · first | (intro w hSw; (try dsimp only at hSw); go_simp; done) | (intro w hSw; (try dsimp only at hSw); go_simp; with_reducible rfl)
              try simp only [Act.put, List.setIfInBounds_toArray, List.set_cons_zero, List.set_cons_succ]
              refine wpAnyH_ready (rs := [10]) (by kernel_rfl) (by simp) (AllReadyH.cons (o := ⟨none, _, _, _, _, _⟩) rfl (fun KX hKX => ?_) AllReadyH.nil)
              go_simp
              refine hKX.out _ _ ?_ (fun hHeld => ?_)
              · first | exact ⟨K.x0, K.x1⟩ | exact K.hold _ _
              clear hKX KX
              try simp only [List.setIfInBounds_toArray, List.set_cons_zero, List.set_cons_succ]
              refine wpAnyH_take (i := 11) (oi := ⟨some 3, _, _, _, _, _⟩) (v := ?_) rfl (by kernel_rfl) (by kernel_rfl) (by kernel_rfl) (fun _ _ _ h => h) (Or.inl ⟨by rfl, ?_⟩) (by assumption) ?_
              rotate_left
              · first | (intro w hSw; (try dsimp only at hSw); go_simp; done) | (intro w hSw; (try dsimp only at hSw); go_simp; with_reducible rfl)
              try simp only [Act.put, List.setIfInBounds_toArray, List.set_cons_zero, List.set_cons_succ]
              refine wpAnyH_done (by kernel_rfl) ?_ _
              go_wp2_with fail
              refine bodyPost_ret (v := .tuple #[.agg #[.int .i64 v1, .int .i64 v2], .bool true]) (by simp [results, Tryd.results44, go_sem, *]) rfl ?_
              exact ⟨v1, v2, true, rfl, ⟨by have := HV1.out.1; omega, by have := HV1.out.1; omega⟩, ⟨by have := HV2.out.1; omega, by have := HV2.out.1; omega⟩, (fun _ => HW.out), (fun h => by cases h), ((K.below.setCell (p := ⟨w.heap.size, 0, none⟩) (Nat.le_refl _) _).setCell (p := ⟨w.heap.size, 1, none⟩) (Nat.le_refl _) _)⟩
            · have HBAD := Lib.hid (HNW.out (fun _ => hw))
              have HF := Lib.hid (show (⟨(fmtV [(v1, v2)]).toArray⟩ : ByteArray) = ⟨(wordT (v1, v2)).toArray⟩ from by rw [fmt_one HQ.out])
              have hne : ((⟨(wordT (v1, v2)).toArray⟩ : ByteArray).toList == s.toList) = false := by
                rw [Lib.toList_data, Lib.toList_data]
                simpa using hw
              clear hw
              generalize (⟨(wordT (v1, v2)).toArray⟩ : ByteArray) = wb at *
              refine wp_region_held_drew (S := (fun w' => w'.cell? ⟨X, 0, none⟩ = some (.int .i64 v1) ∧ w'.cell? ⟨X, 1, none⟩ = some (.int .i64 v2))) (by kernel_rfl) ?_ (fun hHeld => ?_)
              · first | exact ⟨K.x0, K.x1⟩ | exact K.hold _ _
              change wpAnyH _ _ _ _ _ 12 #[false, false, false, false, false, false, false, false, false, false, false, false] _ _
              refine wpAnyH_take (i := 0) (oi := ⟨some 26, _, _, _, _, _⟩) (v := ?_) rfl (by kernel_rfl) (by kernel_rfl) (by kernel_rfl) (fun _ _ _ h => h) (Or.inl ⟨by rfl, ?_⟩) (by assumption) ?_
              rotate_left
              · first | (intro w hSw; (try dsimp only at hSw); go_simp; done) | (intro w hSw; (try dsimp only at hSw); go_simp; with_reducible rfl)
              try simp only [Act.put, List.setIfInBounds_toArray, List.set_cons_zero, List.set_cons_succ]
              refine wpAnyH_take (i := 1) (oi := ⟨some 27, _, _, _, _, _⟩) (v := ?_) rfl (by kernel_rfl) (by kernel_rfl) (by kernel_rfl) (fun _ _ _ h => h) (Or.inl ⟨by rfl, ?_⟩) (by assumption) ?_
              rotate_left
              · first | (intro w hSw; (try dsimp only at hSw); go_simp; done) | (intro w hSw; (try dsimp only at hSw); go_simp; with_reducible rfl)
              try simp only [Act.put, List.setIfInBounds_toArray, List.set_cons_zero, List.set_cons_succ]
              refine wpAnyH_ready (rs := [2]) (by kernel_rfl) (by simp) (AllReadyH.cons (o := ⟨some 28, _, _, _, _, _⟩) rfl (fun KX hKX => ?_) AllReadyH.nil)
              go_simp
              (with_reducible refine (right_c v1 v2 _).mono ?_); rintro e w2 ⟨rfl, hb2⟩; rw [HQ.out]; replace K := K.next hb2; have r0 := K.r0; have r1 := K.r1; have f0 := K.f0; have f1 := K.f1; have x0 := K.x0; have x1 := K.x1
              refine hKX.out _ _ ?_ (fun hHeld => ?_)
              · first | exact ⟨K.x0, K.x1⟩ | exact K.hold _ _
              clear hKX KX
              try simp only [List.setIfInBounds_toArray, List.set_cons_zero, List.set_cons_succ]
              refine wpAnyH_take (i := 3) (oi := ⟨some 29, _, _, _, _, _⟩) (v := ?_) rfl (by kernel_rfl) (by kernel_rfl) (by kernel_rfl) (fun _ _ _ h => h) (Or.inl ⟨by rfl, ?_⟩) (by assumption) ?_
              rotate_left
              · first | (intro w hSw; (try dsimp only at hSw); go_simp; done) | (intro w hSw; (try dsimp only at hSw); go_simp; with_reducible rfl)
              try simp only [Act.put, List.setIfInBounds_toArray, List.set_cons_zero, List.set_cons_succ]
              refine wpAnyH_take (i := 4) (oi := ⟨some 30, _, _, _, _, _⟩) (v := ?_) rfl (by kernel_rfl) (by kernel_rfl) (by kernel_rfl) (fun _ _ _ h => h) (Or.inl ⟨by rfl, ?_⟩) (by assumption) ?_
              rotate_left
              · first | (intro w hSw; (try dsimp only at hSw); go_simp; done) | (intro w hSw; (try dsimp only at hSw); go_simp; with_reducible rfl)
              try simp only [Act.put, List.setIfInBounds_toArray, List.set_cons_zero, List.set_cons_succ]
              refine wpAnyH_take (i := 7) (oi := ⟨some 33, _, _, _, _, _⟩) (v := ?_) rfl (by kernel_rfl) (by kernel_rfl) (by kernel_rfl) (fun _ _ _ h => h) (Or.inl ⟨by rfl, ?_⟩) (by assumption) ?_
              rotate_left
              · first | (intro w hSw; (try dsimp only at hSw); go_simp; done) | (intro w hSw; (try dsimp only at hSw); go_simp; with_reducible rfl)
              try simp only [Act.put, List.setIfInBounds_toArray, List.set_cons_zero, List.set_cons_succ]
              refine wpAnyH_ready (rs := [5]) (by kernel_rfl) (by simp) (AllReadyH.cons (o := ⟨some 31, _, _, _, _, _⟩) rfl (fun KX hKX => ?_) AllReadyH.nil)
              go_simp
              replace K := K.next (ba _ (.cells #[.int .i64 v1, .int .i64 v2] 38)); clear r0 r1 f0 f1 x0 x1
              refine hKX.out _ _ ?_ (fun hHeld => ?_)
              · first | exact ⟨K.x0, K.x1⟩ | exact K.hold _ _
              clear hKX KX
              try simp only [List.setIfInBounds_toArray, List.set_cons_zero, List.set_cons_succ]
              refine wpAnyH_ready (rs := [6]) (by kernel_rfl) (by simp) (AllReadyH.cons (o := ⟨some 32, _, _, _, _, _⟩) rfl (fun KX hKX => ?_) AllReadyH.nil)
              go_simp
              (with_reducible refine (rformat_one v1 v2 _).mono ?_); rintro e w4 ⟨rfl, hb4⟩; rw [HF.out]; replace K := K.next hb4; have r0 := K.r0; have r1 := K.r1; have f0 := K.f0; have f1 := K.f1; have x0 := K.x0; have x1 := K.x1
              refine hKX.out _ _ ?_ (fun hHeld => ?_)
              · first | exact ⟨K.x0, K.x1⟩ | exact K.hold _ _
              clear hKX KX
              try simp only [List.setIfInBounds_toArray, List.set_cons_zero, List.set_cons_succ]
              refine wpAnyH_take (i := 8) (oi := ⟨some 34, _, _, _, _, _⟩) (v := ?_) rfl (by kernel_rfl) (by kernel_rfl) (by kernel_rfl) (fun _ _ _ h => h) (Or.inl ⟨by rfl, ?_⟩) (by assumption) ?_
              rotate_left
              · first | (intro w hSw; (try dsimp only at hSw); go_simp; done) | (intro w hSw; (try dsimp only at hSw); go_simp; with_reducible rfl)
              try simp only [Act.put, List.setIfInBounds_toArray, List.set_cons_zero, List.set_cons_succ]
              refine wpAnyH_take (i := 9) (oi := ⟨some 35, _, _, _, _, _⟩) (v := ?_) rfl (by kernel_rfl) (by kernel_rfl) (by kernel_rfl) (fun _ _ _ h => h) (Or.inl ⟨by rfl, ?_⟩) (by assumption) ?_
              rotate_left
              · first | (intro w hSw; (try dsimp only at hSw); go_simp; done) | (intro w hSw; (try dsimp only at hSw); go_simp; with_reducible rfl)
              try simp only [Act.put, List.setIfInBounds_toArray, List.set_cons_zero, List.set_cons_succ]
              refine wpAnyH_ready (rs := [10]) (by kernel_rfl) (by simp) (AllReadyH.cons (o := ⟨none, _, _, _, _, _⟩) rfl (fun KX hKX => ?_) AllReadyH.nil)
              go_simp
              refine hKX.out _ _ ?_ (fun hHeld => ?_)
              · first | exact ⟨K.x0, K.x1⟩ | exact K.hold _ _
              clear hKX KX
              try simp only [List.setIfInBounds_toArray, List.set_cons_zero, List.set_cons_succ]
              refine wpAnyH_take (i := 11) (oi := ⟨some 3, _, _, _, _, _⟩) (v := ?_) rfl (by kernel_rfl) (by kernel_rfl) (by kernel_rfl) (fun _ _ _ h => h) (Or.inl ⟨by rfl, ?_⟩) (by assumption) ?_
              rotate_left
              · first | (intro w hSw; (try dsimp only at hSw); go_simp; done) | (intro w hSw; (try dsimp only at hSw); go_simp; with_reducible rfl)
              try simp only [Act.put, List.setIfInBounds_toArray, List.set_cons_zero, List.set_cons_succ]
              refine wpAnyH_done (by kernel_rfl) ?_ _
              go_wp2_with fail
              refine bodyPost_ret (v := .tuple #[.agg #[.int .i64 v1, .int .i64 v2], .bool false]) (by simp [results, Tryd.results44, go_sem, *]) rfl ?_
              exact ⟨v1, v2, false, rfl, ⟨by have := HV1.out.1; omega, by have := HV1.out.1; omega⟩, ⟨by have := HV2.out.1; omega, by have := HV2.out.1; omega⟩, (fun h => by cases h), (fun _ => HBAD.out), ((K.below.setCell (p := ⟨w.heap.size, 0, none⟩) (Nat.le_refl _) _).setCell (p := ⟨w.heap.size, 1, none⟩) (Nat.le_refl _) _)⟩
        -- end of region 6
      · have hc1 : ((s[k].toNat : Int) == 64) = false := by
          have : s[k].toNat ≠ 64 := fun e => hc (UInt8.toNat_inj.1 e)
          simp; omega
        have HTK := Lib.hid (show (64 : UInt8) ∉ s.data.toList.take (k + 1) from by
          rw [take_snoc s k hlt, List.mem_append, not_or]
          exact ⟨HNO.out, by simpa using fun h => hc h.symm⟩)
        clear hc
        go_wp2_with fail
        go_roundw
        case rel => exact ⟨k + 1, by omega, by go_num, HTK.out, trivial⟩
        case measure => simp [intOf]; omega
    · obtain rfl : k = s.size := by omega
      have HN := Lib.hid (no_at (s := s.data.toList) (by have := HNO.out; rwa [List.take_of_length_le (by omega)] at this))
      go_wp2_with fail
      refine bodyPost_ret (v := .tuple #[.agg #[.int .i64 0, .int .i64 0], .bool false]) (by simp [results, Tryd.results44, go_sem, *]) rfl ?_
      exact ⟨0, 0, false, rfl, ⟨by decide, by decide⟩, ⟨by decide, by decide⟩, (fun h => by cases h), fun _ => HN.out, ((HB0.out.setCell (p := ⟨w.heap.size, 0, none⟩) (Nat.le_refl _) _).setCell (p := ⟨w.heap.size, 1, none⟩) (Nat.le_refl _) _)⟩
end Go.Proofs.YtabfjiapoafgaaaDoor
