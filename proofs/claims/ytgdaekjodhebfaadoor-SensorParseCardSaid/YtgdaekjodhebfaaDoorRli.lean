/-
  The reference's line.
-/
import Derived.Test.YtgdaekjodhebfaaDoorRno
namespace Go.Proofs.YtgdaekjodhebfaaDoor
open Go.RowKit

/-- what the reference's 'line' answers -/
def RLineP (s : List UInt8) (w : World) (e : Ending) (w' : World) : Prop := ∃ (t v : Int) (b : Bool), e = .returned (.tuple #[.agg #[.int .i64 t, .int .i16 v], .bool b]) ∧ (b = true → s = Lib.itoa t ++ [32] ++ Lib.itoa v ∧ Sml t ∧ B16 v) ∧ (b = false → ∀ x : Int × Int, Sml x.1 → B16 x.2 → s ≠ Lib.itoa x.1 ++ [32] ++ Lib.itoa x.2) ∧ Below w.heap.size w w'
/-- the result's cells, as they were laid -/
structure RZ (w : World) (W : World) : Prop where
  below : Below w.heap.size w W
  lt : w.heap.size < W.heap.size
  r0 : W.cell? ⟨w.heap.size, 0, none⟩ = some (.int .i64 0)
  r1 : W.cell? ⟨w.heap.size, 1, none⟩ = some (.int .i16 0)
  f0 : W.frozen? ⟨w.heap.size, 0, none⟩ = false
  f1 : W.frozen? ⟨w.heap.size, 1, none⟩ = false
theorem RZ.start (w : World) : RZ w (w.alloc (.cells #[.int .i64 0, .int .i16 0] 32)) := ⟨ba w _, by simp, (new_change w 0 0 32).1, (new_change w 0 0 32).2, World.frozen?_alloc_at _ _ _ _ rfl, World.frozen?_alloc_at _ _ _ _ rfl⟩
theorem RZ.next {w W W' : World} (h : RZ w W) (hb : Below W.heap.size W W') : RZ w W' :=
  ⟨bt h.below hb, Nat.lt_of_lt_of_le h.lt hb.size, ((bcell hb).1 _ _ h.lt).trans h.r0, ((bcell hb).1 _ _ h.lt).trans h.r1, ((bcell hb).2 _ _ h.lt).trans h.f0, ((bcell hb).2 _ _ h.lt).trans h.f1⟩
theorem RZ.stored {w W : World} (h : RZ w W) (a b : Value) : Below w.heap.size w ((W.setCell ⟨w.heap.size, 0, none⟩ a).setCell ⟨w.heap.size, 1, none⟩ b) := (h.below.setCell (p := ⟨w.heap.size, 0, none⟩) (Nat.le_refl _) _).setCell (p := ⟨w.heap.size, 1, none⟩) (Nat.le_refl _) _
/-- where the first space stands -/
theorem space_at (s : ByteArray) : (∀ k (h : k < s.size), s[k] ≠ 32) ∧ (32 : UInt8) ∉ s.data.toList ∨ ∃ j : Nat, ∃ h : j < s.size, (∀ k (h : k < j), s[k]'(by omega) ≠ 32) ∧ s[j] = 32 ∧ (32 : UInt8) ∉ s.data.toList.take j ∧ s.data.toList = s.data.toList.take j ++ 32 :: s.data.toList.drop (j + 1) := by
  by_cases h : (32 : UInt8) ∈ s.data.toList
  · obtain ⟨p, q, e, hp⟩ := List.eq_append_cons_of_mem h
    have hl : p.length < s.size := by rw [← dlen, e]; simp
    have ht : s.data.toList.take p.length = p := by rw [e, List.take_left]
    have hd : s.data.toList.drop (p.length + 1) = q := by
      rw [e, show p ++ 32 :: q = (p ++ [32]) ++ q from by simp, show p.length + 1 = (p ++ [32]).length from by simp, List.drop_left]
    have at_ : ∀ k (hk : k < s.size), s.data.toList[k]? = some s[k] := fun k hk => by
      have : s[k] = s.data.toList[k]'(by rw [dlen]; exact hk) := rfl
      rw [this, List.getElem?_eq_getElem]
    refine .inr ⟨p.length, hl, fun k hk hc => hp ?_, ?_, by rw [ht]; exact hp, by rw [ht, hd]; exact e⟩
    · have h1 := at_ k (by omega)
      rw [hc, e, List.getElem?_append_left hk] at h1
      exact List.mem_of_getElem? h1
    · have h1 := at_ p.length hl
      rw [e, List.getElem?_append_right (Nat.le_refl _)] at h1
      simp at h1
      exact h1.symm
  · refine .inl ⟨fun k hk hc => h ?_, h⟩
    have : s[k] = s.data.toList[k]'(by rw [dlen]; exact hk) := rfl
    rw [← hc, this]
    exact List.getElem_mem _
theorem is32 {c : UInt8} (h : c = 32) : ((c.toNat : Int) == 32) = true := by rw [h]; rfl
theorem not32 {c : UInt8} (h : ¬ c = 32) : ((c.toNat : Int) == 32) = false := by
  have : c.toNat ≠ 32 := fun e => h (UInt8.toNat_inj.1 e)
  simp; omega
theorem lit_cut {s p q : List UInt8} {x : Int × Int} (hs : s = p ++ 32 :: q) (hp : (32 : UInt8) ∉ p) (e : s = Lib.itoa x.1 ++ [32] ++ Lib.itoa x.2) : p = Lib.itoa x.1 ∧ q = Lib.itoa x.2 := by
  rw [hs, show Lib.itoa x.1 ++ [32] ++ Lib.itoa x.2 = Lib.itoa x.1 ++ 32 :: Lib.itoa x.2 from by simp] at e
  exact cut_uniq hp (itoa_no32 _) e
set_option maxRecDepth 100000 in
set_option maxHeartbeats 2000000 in
theorem rline_c (s : ByteArray) (hs : s.size ≤ 2000) (w : World) : Calls Tryd.prog 31 #[.string s] w (RLineP s.data.toList w) := by
  have R := RZ.start w
  rcases space_at s with ⟨hno, hnm⟩ | ⟨j, hj, hlo, hat, hnp, hsp⟩
  · have HNO := Lib.hid hno
    have HQ := Lib.hid (show ∀ x : Int × Int, s.data.toList ≠ Lib.itoa x.1 ++ [32] ++ Lib.itoa x.2 from fun x e => hnm (by rw [e]; simp))
    clear hno hnm
    go_enter Tryd.func31, Tryd.ntmps31
    go_wp2_with fail
    go_loop [4] (fun i => ∃ k : Nat, k ≤ s.size ∧ i = .int .i64 k) (fun i => s.size - (intOf i).toNat)
    case atStart => exact ⟨0, by omega, rfl⟩
    case round =>
      obtain ⟨k, hk, rfl⟩ := hrel
      by_cases hlt : k < s.size
      · have t1 := not32 (HNO.out k hlt)
        go_wp2_with fail
        go_round
        case rel => exact ⟨k + 1, by omega, by go_num⟩
        case measure => simp [intOf]; omega
      · obtain ⟨_, _, r0, r1, f0, f1⟩ := id R
        go_wp2_with fail
        exact bodyPost_ret (v := .tuple #[.agg #[.int .i64 0, .int .i16 0], .bool false]) (by simp [results, Tryd.results31, go_sem, *]) rfl ⟨0, 0, false, rfl, (fun h => by cases h), (fun _ x _ _ => HQ.out x), by first | exact R.stored _ _ | exact R.below⟩
  · have HLO := Lib.hid hlo
    have t1 := is32 hat
    have HCUT := Lib.hid (fun x e => lit_cut (x := x) hsp hnp e)
    have HSP := Lib.hid hsp
    have hd1 : (s.extract 0 j).data.toList = s.data.toList.take j := by rw [Lib.extract_data]; simp
    have hd2 : (s.extract (j + 1) s.size).data.toList = s.data.toList.drop (j + 1) := drop_k s (j + 1)
    have HD1 := Lib.hid hd1
    have HD2 := Lib.hid hd2
    clear hlo hat hsp hnp hd1 hd2
    go_enter Tryd.func31, Tryd.ntmps31
    go_wp2_with fail
    go_loop [4] (fun i => ∃ k : Nat, k ≤ j ∧ i = .int .i64 k) (fun i => j - (intOf i).toNat)
    case atStart => exact ⟨0, by omega, rfl⟩
    case round =>
      obtain ⟨k, hk, rfl⟩ := hrel
      have hks : k < s.size := by omega
      by_cases hlt : k < j
      · have t2 := not32 (HLO.out k hlt)
        go_wp2_with fail
        go_round
        case rel => exact ⟨k + 1, by omega, by go_num⟩
        case measure => simp [intOf]; omega
      · obtain rfl : k = j := by omega
        have b1 : (0 : Int) ≤ (k : Int) := by omega
        have b2 : (k : Int) + 1 ≤ (s.size : Int) := by omega
        have sz1 : (s.extract 0 k).size ≤ 2000 := by simp; omega
        have sz2 : (s.extract (k + 1) s.size).size ≤ 2000 := by simp; omega
        go_wp2_with fail
        refine (number_c _ sz1 _).mono ?_
        rintro e w1 ⟨t, o1, rfl, sm1, yes1, no1, hb1⟩
        rw [HD1.out] at yes1 no1
        replace R := R.next hb1
        have HY1 := Lib.hid (And.intro yes1 no1)
        clear yes1 no1 hb1
        go_wp2_with fail
        refine (number_c _ sz2 _).mono ?_
        rintro e w2 ⟨v, o2, rfl, sm2, yes2, no2, hb2⟩
        rw [HD2.out] at yes2 no2
        replace R := R.next hb2
        have HY2 := Lib.hid (And.intro yes2 no2)
        clear yes2 no2 hb2
        obtain ⟨_, _, r0, r1, f0, f1⟩ := id R
        cases o1
        · have HQ := Lib.hid (show ∀ x : Int × Int, Sml x.1 → B16 x.2 → s.data.toList ≠ Lib.itoa x.1 ++ [32] ++ Lib.itoa x.2 from fun x h1 _ e => HY1.out.2 rfl x.1 h1 (HCUT.out x e).1)
          go_wp2_with fail
          exact bodyPost_ret (v := .tuple #[.agg #[.int .i64 t, .int .i16 (IntKind.i16.wrap v)], .bool false]) (by simp [results, Tryd.results31, go_sem, *]) rfl ⟨t, _, false, rfl, (fun h => by cases h), (fun _ x => HQ.out x), R.stored _ _⟩
        · cases o2
          · have HQ := Lib.hid (show ∀ x : Int × Int, Sml x.1 → B16 x.2 → s.data.toList ≠ Lib.itoa x.1 ++ [32] ++ Lib.itoa x.2 from fun x _ h2 e => HY2.out.2 rfl x.2 (by have := h2.1; have := h2.2; unfold Sml; omega) (HCUT.out x e).2)
            go_wp2_with fail
            exact bodyPost_ret (v := .tuple #[.agg #[.int .i64 t, .int .i16 (IntKind.i16.wrap v)], .bool false]) (by simp [results, Tryd.results31, go_sem, *]) rfl ⟨t, _, false, rfl, (fun h => by cases h), (fun _ x => HQ.out x), R.stored _ _⟩
          · have e1 := HY1.out.1 rfl
            have e2 := HY2.out.1 rfl
            by_cases hv1 : -32768 ≤ v
            · by_cases hv2 : v ≤ 32767
              · have hw : IntKind.i16.wrap v = v := IntWalk.i16_in _ (by omega)
                have HQ := Lib.hid (show s.data.toList = Lib.itoa t ++ [32] ++ Lib.itoa v from by rw [← e1, ← e2, List.append_assoc]; exact HSP.out)
                have HM := Lib.hid (And.intro sm1 (show B16 v from ⟨hv1, hv2⟩))
                clear e1 e2 sm1 sm2
                go_wp2_with fail
                exact bodyPost_ret (v := .tuple #[.agg #[.int .i64 t, .int .i16 v], .bool true]) (by simp [results, Tryd.results31, go_sem, *]) rfl ⟨t, v, true, rfl, (fun _ => ⟨HQ.out, HM.out⟩), (fun h => by cases h), R.stored _ _⟩
              · have HQ := Lib.hid (show ∀ x : Int × Int, Sml x.1 → B16 x.2 → s.data.toList ≠ Lib.itoa x.1 ++ [32] ++ Lib.itoa x.2 from fun x _ h2 e => by
                  have h3 := (HCUT.out x e).2
                  rw [e2] at h3
                  have := Dec.itoa_inj h3
                  have := h2.2
                  omega)
                clear e1 e2 sm1 sm2
                go_wp2_with fail
                exact bodyPost_ret (v := .tuple #[.agg #[.int .i64 t, .int .i16 (IntKind.i16.wrap v)], .bool false]) (by simp [results, Tryd.results31, go_sem, *]) rfl ⟨t, _, false, rfl, (fun h => by cases h), (fun _ x => HQ.out x), R.stored _ _⟩
            · have HQ := Lib.hid (show ∀ x : Int × Int, Sml x.1 → B16 x.2 → s.data.toList ≠ Lib.itoa x.1 ++ [32] ++ Lib.itoa x.2 from fun x _ h2 e => by
                have h3 := (HCUT.out x e).2
                rw [e2] at h3
                have := Dec.itoa_inj h3
                have := h2.1
                omega)
              clear e1 e2 sm1 sm2
              go_wp2_with fail
              exact bodyPost_ret (v := .tuple #[.agg #[.int .i64 t, .int .i16 (IntKind.i16.wrap v)], .bool false]) (by simp [results, Tryd.results31, go_sem, *]) rfl ⟨t, _, false, rfl, (fun h => by cases h), (fun _ x => HQ.out x), R.stored _ _⟩
end Go.Proofs.YtgdaekjodhebfaaDoor
