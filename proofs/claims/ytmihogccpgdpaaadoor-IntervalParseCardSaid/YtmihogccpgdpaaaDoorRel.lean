/-
  At, Before, MayBefore, Has and Width of interval: what they return.
-/
import Derived.Test.YtmihogccpgdpaaaDoorIv
namespace Go.Proofs.YtmihogccpgdpaaaDoor
open Go.RowKit

theorem at_c (t : Int) (w : World) : Calls Tryd.prog 16 #[.int .i64 t] w fun e w' => e = .returned (iv (clamp t) (clamp t)) ∧ Below w.heap.size w w' := by
  have e1 : max 0 (min t 1099511627776) = clamp t := by unfold clamp; split <;> (try split) <;> omega
  have E1 := Lib.hid e1
  clear e1
  go_enter Tryd.func16, Tryd.ntmps16
  go_wp2_with fail
  exact bodyPost_ret (v := iv (max 0 (min t 1099511627776)) (max 0 (min t 1099511627776))) (by simp [results, Tryd.results16, go_sem]) rfl ⟨by rw [E1.out], (by repeat' first | exact kb | exact Below.refl _ _ | refine Below.drew ?_ | refine Below.alloc ?_ ?_ _ | refine Below.setCell ?_ ?_ _ | omega | (simp; omega) | simp)⟩
theorem of_c (a b : Int) (w : World) : Calls Tryd.prog 17 #[.int .i64 a, .int .i64 b] w fun e w' => e = .returned (iv a b) ∧ Below w.heap.size w w' := by
  go_enter Tryd.func17, Tryd.ntmps17
  go_wp2_with fail
  exact bodyPost_ret (v := iv a b) (by simp [results, Tryd.results17, go_sem]) rfl ⟨rfl, (by repeat' first | exact kb | exact Below.refl _ _ | refine Below.drew ?_ | refine Below.alloc ?_ ?_ _ | refine Below.setCell ?_ ?_ _ | omega | (simp; omega) | simp)⟩

/-- two boxed intervals -/
structure B2 (w : World) (a b c d : Int) (W : World) : Prop where
  below : Below w.heap.size w W
  size : w.heap.size + 2 ≤ W.heap.size
  a : W.cell? ⟨w.heap.size, 0, none⟩ = some (.int .i64 a)
  b : W.cell? ⟨w.heap.size, 1, none⟩ = some (.int .i64 b)
  c : W.cell? ⟨w.heap.size + 1, 0, none⟩ = some (.int .i64 c)
  d : W.cell? ⟨w.heap.size + 1, 1, none⟩ = some (.int .i64 d)
theorem B2.next {w W W' : World} {a b c d : Int} (h : B2 w a b c d W) (hb : Below W.heap.size W W') : B2 w a b c d W' := by
  obtain ⟨hc, hf⟩ := bcell hb
  have hs := h.size
  exact ⟨h.below.trans (hb.mono h.below.size), Nat.le_trans hs hb.size, (hc _ _ (by omega)).trans h.a, (hc _ _ (by omega)).trans h.b, (hc _ _ (by omega)).trans h.c, (hc _ _ (by omega)).trans h.d⟩
theorem B2.start (w : World) (a b c d : Int) : B2 w a b c d ((w.alloc (.cells #[.int .i64 a, .int .i64 b] 23)).alloc (.cells #[.int .i64 c, .int .i64 d] 23)) := by
  refine ⟨((Below.refl _ _).alloc (Nat.le_refl _) _).alloc (by simp) _, by simp, ?_, ?_, ?_, ?_⟩ <;> go_simp
/-- one boxed interval -/
structure B1 (w : World) (a b : Int) (W : World) : Prop where
  below : Below w.heap.size w W
  size : w.heap.size + 1 ≤ W.heap.size
  a : W.cell? ⟨w.heap.size, 0, none⟩ = some (.int .i64 a)
  b : W.cell? ⟨w.heap.size, 1, none⟩ = some (.int .i64 b)
theorem B1.next {w W W' : World} {a b : Int} (h : B1 w a b W) (hb : Below W.heap.size W W') : B1 w a b W' := by
  obtain ⟨hc, hf⟩ := bcell hb
  have hs := h.size
  exact ⟨h.below.trans (hb.mono h.below.size), Nat.le_trans hs hb.size, (hc _ _ (by omega)).trans h.a, (hc _ _ (by omega)).trans h.b⟩
theorem B1.start (w : World) (a b : Int) : B1 w a b (w.alloc (.cells #[.int .i64 a, .int .i64 b] 23)) := by
  refine ⟨(Below.refl _ _).alloc (Nat.le_refl _) _, by simp, ?_, ?_⟩ <;> go_simp

theorem before_c (a b c d : Int) (w : World) : Calls Tryd.prog 20 #[iv a b, iv c d] w fun e w' => e = .returned (.bool (vld a b && vld c d && decide (b < c))) ∧ Below w.heap.size w w' := by
  cases h1 : vld a b
  · go_enter Tryd.func20, Tryd.ntmps20
    go_wp2_with fail
    refine (valid_c _ _ _).mono ?_
    rintro e w1 ⟨rfl, hb1⟩
    have k1 := (B2.start w a b c d).next hb1
    clear hb1 
    obtain ⟨kb, ks, ka, kb', kc, kd⟩ := id k1
    go_wp2_with fail
    go_ret
    exact ⟨ret_bool (by first | simp [*] | (simp [*]; done)), kb⟩
  · cases h2 : vld c d
    · go_enter Tryd.func20, Tryd.ntmps20
      go_wp2_with fail
      refine (valid_c _ _ _).mono ?_
      rintro e w1 ⟨rfl, hb1⟩
      have k1 := (B2.start w a b c d).next hb1
      clear hb1 
      obtain ⟨kb, ks, ka, kb', kc, kd⟩ := id k1
      go_wp2_with fail
      refine (valid_c _ _ _).mono ?_
      rintro e w2 ⟨rfl, hb2⟩
      have k2 := k1.next hb2
      clear hb2 kb ks ka kb' kc kd k1
      obtain ⟨kb, ks, ka, kb', kc, kd⟩ := id k2
      go_wp2_with fail
      go_ret
      exact ⟨ret_bool (by first | simp [*] | (simp [*]; done)), kb⟩
    · by_cases h3 : b < c
      all_goals
        go_enter Tryd.func20, Tryd.ntmps20
        go_wp2_with fail
        refine (valid_c _ _ _).mono ?_
        rintro e w1 ⟨rfl, hb1⟩
        have k1 := (B2.start w a b c d).next hb1
        clear hb1 
        obtain ⟨kb, ks, ka, kb', kc, kd⟩ := id k1
        go_wp2_with fail
        refine (valid_c _ _ _).mono ?_
        rintro e w2 ⟨rfl, hb2⟩
        have k2 := k1.next hb2
        clear hb2 kb ks ka kb' kc kd k1
        obtain ⟨kb, ks, ka, kb', kc, kd⟩ := id k2
        go_wp2_with fail
        go_ret
        exact ⟨ret_bool (by first | simp [*] | (simp [*]; done)), kb⟩

theorem mayBefore_c (a b c d : Int) (w : World) : Calls Tryd.prog 21 #[iv a b, iv c d] w fun e w' => e = .returned (.bool (vld a b && vld c d && decide (a < d))) ∧ Below w.heap.size w w' := by
  cases h1 : vld a b
  · go_enter Tryd.func21, Tryd.ntmps21
    go_wp2_with fail
    refine (valid_c _ _ _).mono ?_
    rintro e w1 ⟨rfl, hb1⟩
    have k1 := (B2.start w a b c d).next hb1
    clear hb1 
    obtain ⟨kb, ks, ka, kb', kc, kd⟩ := id k1
    go_wp2_with fail
    go_ret
    exact ⟨ret_bool (by first | simp [*] | (simp [*]; done)), kb⟩
  · cases h2 : vld c d
    · go_enter Tryd.func21, Tryd.ntmps21
      go_wp2_with fail
      refine (valid_c _ _ _).mono ?_
      rintro e w1 ⟨rfl, hb1⟩
      have k1 := (B2.start w a b c d).next hb1
      clear hb1 
      obtain ⟨kb, ks, ka, kb', kc, kd⟩ := id k1
      go_wp2_with fail
      refine (valid_c _ _ _).mono ?_
      rintro e w2 ⟨rfl, hb2⟩
      have k2 := k1.next hb2
      clear hb2 kb ks ka kb' kc kd k1
      obtain ⟨kb, ks, ka, kb', kc, kd⟩ := id k2
      go_wp2_with fail
      go_ret
      exact ⟨ret_bool (by first | simp [*] | (simp [*]; done)), kb⟩
    · by_cases h3 : a < d
      all_goals
        go_enter Tryd.func21, Tryd.ntmps21
        go_wp2_with fail
        refine (valid_c _ _ _).mono ?_
        rintro e w1 ⟨rfl, hb1⟩
        have k1 := (B2.start w a b c d).next hb1
        clear hb1 
        obtain ⟨kb, ks, ka, kb', kc, kd⟩ := id k1
        go_wp2_with fail
        refine (valid_c _ _ _).mono ?_
        rintro e w2 ⟨rfl, hb2⟩
        have k2 := k1.next hb2
        clear hb2 kb ks ka kb' kc kd k1
        obtain ⟨kb, ks, ka, kb', kc, kd⟩ := id k2
        go_wp2_with fail
        go_ret
        exact ⟨ret_bool (by first | simp [*] | (simp [*]; done)), kb⟩

theorem has_c (a b t : Int) (w : World) : Calls Tryd.prog 22 #[iv a b, .int .i64 t] w fun e w' => e = .returned (.bool (vld a b && decide (a ≤ t) && decide (t ≤ b))) ∧ Below w.heap.size w w' := by
  cases h1 : vld a b
  · go_enter Tryd.func22, Tryd.ntmps22
    go_wp2_with fail
    refine (valid_c _ _ _).mono ?_
    rintro e w1 ⟨rfl, hb1⟩
    have k1 := (B1.start w a b).next hb1
    clear hb1
    obtain ⟨kb, ks, ka, kb'⟩ := id k1
    go_wp2_with fail
    go_ret
    exact ⟨ret_bool (by simp [*]), kb⟩
  · by_cases h2 : a ≤ t <;> by_cases h3 : t ≤ b
    all_goals
      go_enter Tryd.func22, Tryd.ntmps22
      go_wp2_with fail
      refine (valid_c _ _ _).mono ?_
      rintro e w1 ⟨rfl, hb1⟩
      have k1 := (B1.start w a b).next hb1
      clear hb1
      obtain ⟨kb, ks, ka, kb'⟩ := id k1
      go_wp2_with fail
      go_ret
      exact ⟨ret_bool (by simp [*]), kb⟩
theorem width_c (a b : Int) (w : World) : Calls Tryd.prog 23 #[iv a b] w fun e w' => e = .returned (.int .i64 (if vld a b = true then b - a else 0)) ∧ Below w.heap.size w w' := by
  cases h1 : vld a b
  · go_enter Tryd.func23, Tryd.ntmps23
    go_wp2_with fail
    refine (valid_c _ _ _).mono ?_
    rintro e w1 ⟨rfl, hb1⟩
    have k1 := (B1.start w a b).next hb1
    clear hb1
    obtain ⟨kb, ks, ka, kb'⟩ := id k1
    go_wp2_with fail
    go_ret
    exact ⟨ret_int (by simp), kb⟩
  · obtain ⟨a0, a1, a2⟩ := vld_iff.1 h1
    go_enter Tryd.func23, Tryd.ntmps23
    go_wp2_with fail
    refine (valid_c _ _ _).mono ?_
    rintro e w1 ⟨rfl, hb1⟩
    have k1 := (B1.start w a b).next hb1
    clear hb1
    obtain ⟨kb, ks, ka, kb'⟩ := id k1
    go_wp2_with fail
    go_ret
    exact ⟨ret_int (by simp), kb⟩
end Go.Proofs.YtmihogccpgdpaaaDoor
