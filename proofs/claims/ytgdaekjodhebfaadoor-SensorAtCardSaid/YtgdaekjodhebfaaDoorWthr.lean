/-
  The walk of SensorMerge.
-/
import Derived.Test.YtgdaekjodhebfaaDoorWone
namespace Go.Proofs.YtgdaekjodhebfaaDoor
open Go.RowKit
attribute [local go_sem ↓] Go.wp_at_zero Go.wp_at_succ

theorem three_new (w : World) (a b c : Value) (e : TypeId) : (w.alloc (.cells #[a, b, c] e)).cell? ⟨w.heap.size, 0, none⟩ = some a ∧ (w.alloc (.cells #[a, b, c] e)).cell? ⟨w.heap.size, 1, none⟩ = some b ∧ (w.alloc (.cells #[a, b, c] e)).cell? ⟨w.heap.size, 2, none⟩ = some c := ⟨(World.cell?_alloc_at _ _ _ _ rfl).trans rfl, (World.cell?_alloc_at _ _ _ _ rfl).trans rfl, (World.cell?_alloc_at _ _ _ _ rfl).trans rfl⟩
/-- three values in a slice -/
structure V3 (g : Nat) (x y z : Int) (W : World) : Prop where
  lt : g < W.heap.size
  v0 : W.cell? ⟨g, 0, none⟩ = some (.int .i16 x)
  v1 : W.cell? ⟨g, 1, none⟩ = some (.int .i16 y)
  v2 : W.cell? ⟨g, 2, none⟩ = some (.int .i16 z)
theorem V3.next {g : Nat} {x y z : Int} {W W' : World} (h : V3 g x y z W) (hb : Below W.heap.size W W') : V3 g x y z W' := ⟨Nat.lt_of_lt_of_le h.lt hb.size, ((bcell hb).1 g 0 h.lt).trans h.v0, ((bcell hb).1 g 1 h.lt).trans h.v1, ((bcell hb).1 g 2 h.lt).trans h.v2⟩
theorem V3.of {A : Option Addr} {x y z : Int} {W : World} (h : Vls W A [x, y, z]) : ∃ g, A = some ⟨g, 0, none⟩ ∧ V3 g x y z W := by
  obtain ⟨g, rfl, hlt, h0⟩ := h.at_ 0 x rfl
  obtain ⟨g1, e1, -, h1⟩ := h.at_ 1 y rfl
  obtain ⟨g2, e2, -, h2⟩ := h.at_ 2 z rfl
  obtain rfl : g = g1 := by simpa using e1
  obtain rfl : g = g2 := by simpa using e2
  exact ⟨g, rfl, hlt, h0, h1, h2⟩
theorem trs3 {w : World} {tp up : Nat} {a b : List (Int × Int)} (T : Trc w tp a) (U : Trc w up b) (e : TypeId) : Trs (w.alloc (.cells #[.pointer (some ⟨tp, 0, none⟩), .pointer (some ⟨up, 0, none⟩), .pointer (some ⟨tp, 0, none⟩)] e)) (some ⟨w.heap.size, 0, none⟩) [a, b, a] := by
  obtain ⟨c0, c1, c2⟩ := three_new w (.pointer (some ⟨tp, 0, none⟩)) (.pointer (some ⟨up, 0, none⟩)) (.pointer (some ⟨tp, 0, none⟩)) e
  have hb := ba w (.cells #[.pointer (some ⟨tp, 0, none⟩), .pointer (some ⟨up, 0, none⟩), .pointer (some ⟨tp, 0, none⟩)] e)
  refine ⟨fun j l hj => ?_⟩
  match j with
  | 0 => simp at hj; subst hj; exact ⟨_, tp, rfl, by simp, c0, T.next hb⟩
  | 1 => simp at hj; subst hj; exact ⟨_, up, rfl, by simp, c1, U.next hb⟩
  | 2 => simp at hj; subst hj; exact ⟨_, tp, rfl, by simp, c2, T.next hb⟩
  | j + 3 => simp at hj
theorem merge_nil (t : Int) (w : World) : Calls Tryd.prog 17 #[.slice none 0 0, .int .i64 t] w fun e w' => ∃ A cap, e = .returned (.slice A 0 cap) ∧ Below w.heap.size w w' :=
  (merge_c [] (by simp) (fun l hl => by cases hl) t none 0 w ⟨fun j l hj => by simp at hj⟩).mono fun _ _ ⟨A, cap, he, _, hb⟩ => ⟨A, cap, he, hb⟩
set_option maxRecDepth 100000 in
set_option maxHeartbeats 4000000 in
theorem sensorMerge_w (a b : List (Int × Int)) (ham : (a.length : Int) ≤ 9223372036854775807) (hbm : (b.length : Int) ≤ 9223372036854775807) (time : Int) (A B : Option Addr) (ca cb : Nat) (w : World) (hr : Ready w) (CA : Chs w A a) (CB : Chs w B b) : Calls Tryd.prog 5 #[.slice A a.length ca, .slice B b.length cb, .int .i64 time] w (Yes w) := by
  have HA := Lib.hid CA
  have HB := Lib.hid CB
  clear CA CB
  go_enter Tryd.func5, Tryd.ntmps5
  go_wp2_with fail
  refine (made_c a ham A ca _ HA.out).mono ?_
  intro e w1 h1
  by_cases hc : a.length ≤ 60 ∧ validL a = true
  · obtain ⟨tp, rfl, T, hb1⟩ := h1.yes hc
    have hla : a.length ≤ 1000 := by omega
    have HVA := Lib.hid hc.2
    clear h1 hc
    have A1 := Lib.hid (HA.out.next hb1)
    have B1 := Lib.hid (HB.out.next hb1)
    have HT := Lib.hid T
    have K1 := Lib.hid hb1
    clear hb1 T HA HB
    go_wp2_with fail
    refine (made_c b hbm B cb _ B1.out).mono ?_
    intro e w2 h2
    by_cases hc : b.length ≤ 60 ∧ validL b = true
    · obtain ⟨up, rfl, U, hb2⟩ := h2.yes hc
      have hlb : b.length ≤ 1000 := by omega
      have HVB := Lib.hid hc.2
      clear h2 hc
      have A2 := A1.out.next hb2
      have B2 := B1.out.next hb2
      have T := HT.out.next hb2
      have k2 := bt K1.out hb2
      clear hb2 HT A1 B1 K1
      go_wp2_with fail
      have TS := trs3 T U 23
      have hb3 := ba w2 (.cells #[.pointer (some ⟨tp, 0, none⟩), .pointer (some ⟨up, 0, none⟩), .pointer (some ⟨tp, 0, none⟩)] 23)
      replace A2 := A2.next hb3
      replace B2 := B2.next hb3
      replace k2 := bt k2 hb3
      clear hb3 T U
      generalize w2.alloc (.cells #[.pointer (some ⟨tp, 0, none⟩), .pointer (some ⟨up, 0, none⟩), .pointer (some ⟨tp, 0, none⟩)] 23) = W2 at *
      refine (merge_c [a, b, a] (by simp) (fun l hl => by simp at hl; rcases hl with rfl | rfl | rfl <;> first | exact ⟨hla, HVA.out⟩ | exact ⟨hlb, HVB.out⟩) time _ 3 _ TS).mono ?_
      rintro e w3 ⟨A3, cap3, rfl, V, hb3⟩
      obtain ⟨g, rfl, V'⟩ := V3.of V
      clear V
      replace A2 := A2.next hb3
      replace B2 := B2.next hb3
      replace k2 := bt k2 hb3
      clear hb3 TS
      have hcap : (List.map (fun l => atL l time) [a, b, a]).length = 3 := rfl
      rw [hcap]
      clear hcap
      go_wp2_with fail
      have K : V3 g (atL a time) (atL b time) (atL a time) w3.drew ∧ Chs w3.drew A a ∧ Chs w3.drew B b ∧ Below w.heap.size w w3.drew := ⟨V'.next w3.drewB, A2.next w3.drewB, B2.next w3.drewB, bt k2 w3.drewB⟩
      clear V' A2 B2 k2
      obtain ⟨xa, hxa⟩ : ∃ z, atL a time = z := ⟨_, rfl⟩
      obtain ⟨xb, hxb⟩ : ∃ z, atL b time = z := ⟨_, rfl⟩
      rw [hxa, hxb] at K
      have HXA := Lib.hid hxa
      have HXB := Lib.hid hxb
      clear hxa hxb
      go_region_held3 (fun w' => w'.cell? ⟨g, 0, none⟩ = some (.int .i16 xa) ∧ w'.cell? ⟨g, 1, none⟩ = some (.int .i16 xb) ∧ w'.cell? ⟨g, 2, none⟩ = some (.int .i16 xa)) (first | exact ⟨K.1.v0, K.1.v1, K.1.v2⟩ | go_keep)
        (first
          | (go_at_call 14; (with_reducible refine (changes_c a hla A ca _ K.2.1).mono ?_); rintro e w4 ⟨A5, cap5, rfl, C5, hb4⟩; replace K := And.intro (K.1.next hb4) (And.intro (K.2.1.next hb4) (And.intro (K.2.2.1.next hb4) (bt K.2.2.2 hb4))))
          | (go_at_call 14; (with_reducible refine (changes_c b hlb B cb _ K.2.2.1).mono ?_); rintro e w4 ⟨A5, cap5, rfl, C5, hb4⟩; replace K := And.intro (K.1.next hb4) (And.intro (K.2.1.next hb4) (And.intro (K.2.2.1.next hb4) (bt K.2.2.2 hb4))))
          | (go_at_call 16; (with_reducible refine (rat_c a hla time _ _ _ C5).mono ?_); rintro e w4 ⟨rfl, hb4⟩; rw [HXA.out]; replace K := And.intro (K.1.next hb4) (And.intro (K.2.1.next hb4) (And.intro (K.2.2.1.next hb4) (bt K.2.2.2 hb4))))
          | (go_at_call 16; (with_reducible refine (rat_c b hlb time _ _ _ C5).mono ?_); rintro e w4 ⟨rfl, hb4⟩; rw [HXB.out]; replace K := And.intro (K.1.next hb4) (And.intro (K.2.1.next hb4) (And.intro (K.2.2.1.next hb4) (bt K.2.2.2 hb4))))
          | (go_at_call 17; (with_reducible refine (merge_nil time _).mono ?_); rintro e w4 ⟨A5, cap5, rfl, hb4⟩; replace K := And.intro (K.1.next hb4) (And.intro (K.2.1.next hb4) (And.intro (K.2.2.1.next hb4) (bt K.2.2.2 hb4))))
          | (go_at_call 11; (with_reducible refine (examples_c _ (hr.below K.2.2.2)).mono ?_); rintro e w4 ⟨rfl, hb4⟩; replace K := And.intro (K.1.next hb4) (And.intro (K.2.1.next hb4) (And.intro (K.2.2.1.next hb4) (bt K.2.2.2 hb4)))))
      all_goals go_wp2_with fail
      all_goals go_ret
      all_goals exact ⟨rfl, K.2.2.2⟩
    · obtain ⟨rfl, hb2⟩ := h2.no hc
      clear h2 hc
      have k2 := bt K1.out hb2
      clear hb2 HT A1 B1 K1
      go_wp2_with fail
      refine (examples_c _ (hr.below k2)).mono ?_
      rintro e w6 ⟨rfl, hb6⟩
      have k3 := bt k2 hb6
      go_wp2_with fail
      go_ret
      exact ⟨rfl, k3⟩
  · obtain ⟨rfl, hb1⟩ := h1.no hc
    clear h1 hc
    have B1 := HB.out.next hb1
    have K1 := Lib.hid hb1
    clear hb1 HA HB
    go_wp2_with fail
    refine (made_c b hbm B cb _ B1).mono ?_
    intro e w2 h2
    have k2 : Below w.heap.size w w2 := bt K1.out h2.2
    by_cases hc : b.length ≤ 60 ∧ validL b = true
    · obtain ⟨up, rfl, U, hb2⟩ := h2.yes hc
      clear h2 hc hb2 U B1
      go_wp2_with fail
      refine (examples_c _ (hr.below k2)).mono ?_
      rintro e w6 ⟨rfl, hb6⟩
      have k3 := bt k2 hb6
      go_wp2_with fail
      go_ret
      exact ⟨rfl, k3⟩
    · obtain ⟨rfl, hb2⟩ := h2.no hc
      clear h2 hc hb2 B1
      go_wp2_with fail
      refine (examples_c _ (hr.below k2)).mono ?_
      rintro e w6 ⟨rfl, hb6⟩
      have k3 := bt k2 hb6
      go_wp2_with fail
      go_ret
      exact ⟨rfl, k3⟩
end Go.Proofs.YtgdaekjodhebfaaDoor
