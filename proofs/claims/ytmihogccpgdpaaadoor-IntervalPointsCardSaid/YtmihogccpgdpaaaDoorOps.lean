/-
  Add, Sub, Hull and Meet of interval and of trickleref05: what they return.
-/
import Derived.Test.YtmihogccpgdpaaaDoorIv
namespace Go.Proofs.YtmihogccpgdpaaaDoor
open Go.RowKit

abbrev ivE (lo hi e : Int) : Ending := .returned (.tuple #[iv lo hi, .int .i64 e])
theorem ivE_eq {a b c a' b' c' : Int} (h1 : a = a') (h2 : b = b') (h3 : c = c') : ivE a b c = ivE a' b' c' := by rw [h1, h2, h3]

/-- the boxed arguments and the result's cells -/
structure Bx (w : World) (a b c d : Int) (W : World) : Prop where
  below : Below w.heap.size w W
  size : w.heap.size + 3 ≤ W.heap.size
  a : W.cell? ⟨w.heap.size, 0, none⟩ = some (.int .i64 a)
  b : W.cell? ⟨w.heap.size, 1, none⟩ = some (.int .i64 b)
  c : W.cell? ⟨w.heap.size + 1, 0, none⟩ = some (.int .i64 c)
  d : W.cell? ⟨w.heap.size + 1, 1, none⟩ = some (.int .i64 d)
  r0 : W.cell? ⟨w.heap.size + 1 + 1, 0, none⟩ = some (.int .i64 0)
  r1 : W.cell? ⟨w.heap.size + 1 + 1, 1, none⟩ = some (.int .i64 0)
  f0 : W.frozen? ⟨w.heap.size + 1 + 1, 0, none⟩ = false
  f1 : W.frozen? ⟨w.heap.size + 1 + 1, 1, none⟩ = false
theorem Bx.next {w W W' : World} {a b c d : Int} (h : Bx w a b c d W) (hb : Below W.heap.size W W') : Bx w a b c d W' := by
  obtain ⟨hc, hf⟩ := bcell hb
  have hs := h.size
  exact ⟨h.below.trans (hb.mono h.below.size), Nat.le_trans hs hb.size, (hc _ _ (by omega)).trans h.a, (hc _ _ (by omega)).trans h.b, (hc _ _ (by omega)).trans h.c, (hc _ _ (by omega)).trans h.d, (hc _ _ (by omega)).trans h.r0, (hc _ _ (by omega)).trans h.r1, (hf _ _ (by omega)).trans h.f0, (hf _ _ (by omega)).trans h.f1⟩
theorem keep_cell {W : World} {B r o : Nat} {v x1 x2 : Value} (hne : B ≠ r) (h : W.cell? ⟨B, o, none⟩ = some v) : (((W.setCell ⟨r, 0, none⟩ x1).setCell ⟨r, 1, none⟩ x2).drew).cell? ⟨B, o, none⟩ = some v := by
  have h1 : ∀ (U : World) (k : Nat) (x : Value), (U.setCell ⟨r, k, none⟩ x).cell? ⟨B, o, none⟩ = U.cell? ⟨B, o, none⟩ := fun U k x => World.cell?_setCell_other U _ _ x (by intro e; exact hne (congrArg Addr.block e).symm)
  show ((W.setCell ⟨r, 0, none⟩ x1).setCell ⟨r, 1, none⟩ x2).cell? ⟨B, o, none⟩ = some v
  rw [h1, h1, h]
theorem Bx.start (w : World) (a b c d : Int) : Bx w a b c d (((w.alloc (.cells #[.int .i64 a, .int .i64 b] 23)).alloc (.cells #[.int .i64 c, .int .i64 d] 23)).alloc (.cells #[.int .i64 0, .int .i64 0] 23)) := by
  refine ⟨(((Below.refl _ _).alloc (Nat.le_refl _) _).alloc (by simp) _).alloc (by simp; omega) _, by simp, ?_, ?_, ?_, ?_, ?_, ?_, ?_, ?_⟩ <;> go_simp

theorem add_c (a b c d : Int) (w : World) (h1 : vld a b = true) (h2 : vld c d = true) :
    Calls Tryd.prog 10 #[iv a b, iv c d] w fun e w' => e = ivE (clamp (a + c)) (clamp (b + d)) 0 ∧ Below w.heap.size w w' := by
  obtain ⟨a0, a1, a2⟩ := vld_iff.1 h1
  obtain ⟨c0, c1, c2⟩ := vld_iff.1 h2
  go_enter Tryd.func10, Tryd.ntmps10
  go_wp2_with fail
  refine (valid_c _ _ _).mono ?_
  rintro e w1 ⟨rfl, hb1⟩
  have k1 := (Bx.start w a b c d).next hb1
  clear hb1
  obtain ⟨kb, ks, ka, kb', kc, kd, kr0, kr1, kf0, kf1⟩ := id k1
  go_wp2_with fail
  refine (valid_c _ _ _).mono ?_
  rintro e w2 ⟨rfl, hb2⟩
  have k2 := k1.next hb2
  clear hb2 kb ks ka kb' kc kd kr0 kr1 kf0 kf1 k1
  obtain ⟨kb, ks, ka, kb', kc, kd, kr0, kr1, kf0, kf1⟩ := id k2
  go_wp2_with fail
  exact bodyPost_ret (v := .tuple #[iv (min (a + c) 1099511627776) (min (b + d) 1099511627776), .int .i64 0]) (by simp [results, Tryd.results10, go_sem, *]) rfl ⟨ivE_eq (min_clamp (by omega)) (min_clamp (by omega)) rfl, (kb.setCell (by simp; omega) _).setCell (by simp; omega) _⟩

theorem add_no (a b c d : Int) (w : World) (h : ¬ (vld a b = true ∧ vld c d = true)) :
    Calls Tryd.prog 10 #[iv a b, iv c d] w fun e w' => e = ivE 0 0 1 ∧ Below w.heap.size w w' := by
  by_cases h1 : vld a b = true
  · have h2 : vld c d = false := by simpa [h1] using h
    clear h
    go_enter Tryd.func10, Tryd.ntmps10
    go_wp2_with fail
    refine (valid_c _ _ _).mono ?_
    rintro e w1 ⟨rfl, hb1⟩
    have k1 := (Bx.start w a b c d).next hb1
    clear hb1
    obtain ⟨kb, ks, ka, kb', kc, kd, kr0, kr1, kf0, kf1⟩ := id k1
    go_wp2_with fail
    refine (valid_c _ _ _).mono ?_
    rintro e w2 ⟨rfl, hb2⟩
    have k2 := k1.next hb2
    clear hb2 kb ks ka kb' kc kd kr0 kr1 kf0 kf1 k1
    obtain ⟨kb, ks, ka, kb', kc, kd, kr0, kr1, kf0, kf1⟩ := id k2
    go_wp2_with fail
    exact bodyPost_ret (v := .tuple #[iv 0 0, .int .i64 1]) (by simp [results, Tryd.results10, go_sem, *]) rfl ⟨rfl, (kb.setCell (by simp; omega) _).setCell (by simp; omega) _⟩
  · have h2 : vld a b = false := by simpa using h1
    clear h h1
    go_enter Tryd.func10, Tryd.ntmps10
    go_wp2_with fail
    refine (valid_c _ _ _).mono ?_
    rintro e w1 ⟨rfl, hb1⟩
    have k1 := (Bx.start w a b c d).next hb1
    clear hb1
    obtain ⟨kb, ks, ka, kb', kc, kd, kr0, kr1, kf0, kf1⟩ := id k1
    go_wp2_with fail
    exact bodyPost_ret (v := .tuple #[iv 0 0, .int .i64 1]) (by simp [results, Tryd.results10, go_sem, *]) rfl ⟨rfl, (kb.setCell (by simp; omega) _).setCell (by simp; omega) _⟩

theorem sub_c (a b c d : Int) (w : World) (h1 : vld a b = true) (h2 : vld c d = true) :
    Calls Tryd.prog 18 #[iv a b, iv c d] w fun e w' => e = ivE (clamp (a - d)) (clamp (b - c)) 0 ∧ Below w.heap.size w w' := by
  obtain ⟨a0, a1, a2⟩ := vld_iff.1 h1
  obtain ⟨c0, c1, c2⟩ := vld_iff.1 h2
  go_enter Tryd.func18, Tryd.ntmps18
  go_wp2_with fail
  refine (valid_c _ _ _).mono ?_
  rintro e w1 ⟨rfl, hb1⟩
  have k1 := (Bx.start w a b c d).next hb1
  clear hb1
  obtain ⟨kb, ks, ka, kb', kc, kd, kr0, kr1, kf0, kf1⟩ := id k1
  go_wp2_with fail
  refine (valid_c _ _ _).mono ?_
  rintro e w2 ⟨rfl, hb2⟩
  have k2 := k1.next hb2
  clear hb2 kb ks ka kb' kc kd kr0 kr1 kf0 kf1 k1
  obtain ⟨kb, ks, ka, kb', kc, kd, kr0, kr1, kf0, kf1⟩ := id k2
  go_wp2_with fail
  exact bodyPost_ret (v := .tuple #[iv (max (a - d) 0) (max (b - c) 0), .int .i64 0]) (by simp [results, Tryd.results18, go_sem, *]) rfl ⟨ivE_eq (max_clamp (by omega)) (max_clamp (by omega)) rfl, (kb.setCell (by simp; omega) _).setCell (by simp; omega) _⟩

theorem sub_no (a b c d : Int) (w : World) (h : ¬ (vld a b = true ∧ vld c d = true)) :
    Calls Tryd.prog 18 #[iv a b, iv c d] w fun e w' => e = ivE 0 0 1 ∧ Below w.heap.size w w' := by
  by_cases h1 : vld a b = true
  · have h2 : vld c d = false := by simpa [h1] using h
    clear h
    go_enter Tryd.func18, Tryd.ntmps18
    go_wp2_with fail
    refine (valid_c _ _ _).mono ?_
    rintro e w1 ⟨rfl, hb1⟩
    have k1 := (Bx.start w a b c d).next hb1
    clear hb1
    obtain ⟨kb, ks, ka, kb', kc, kd, kr0, kr1, kf0, kf1⟩ := id k1
    go_wp2_with fail
    refine (valid_c _ _ _).mono ?_
    rintro e w2 ⟨rfl, hb2⟩
    have k2 := k1.next hb2
    clear hb2 kb ks ka kb' kc kd kr0 kr1 kf0 kf1 k1
    obtain ⟨kb, ks, ka, kb', kc, kd, kr0, kr1, kf0, kf1⟩ := id k2
    go_wp2_with fail
    exact bodyPost_ret (v := .tuple #[iv 0 0, .int .i64 1]) (by simp [results, Tryd.results18, go_sem, *]) rfl ⟨rfl, (kb.setCell (by simp; omega) _).setCell (by simp; omega) _⟩
  · have h2 : vld a b = false := by simpa using h1
    clear h h1
    go_enter Tryd.func18, Tryd.ntmps18
    go_wp2_with fail
    refine (valid_c _ _ _).mono ?_
    rintro e w1 ⟨rfl, hb1⟩
    have k1 := (Bx.start w a b c d).next hb1
    clear hb1
    obtain ⟨kb, ks, ka, kb', kc, kd, kr0, kr1, kf0, kf1⟩ := id k1
    go_wp2_with fail
    exact bodyPost_ret (v := .tuple #[iv 0 0, .int .i64 1]) (by simp [results, Tryd.results18, go_sem, *]) rfl ⟨rfl, (kb.setCell (by simp; omega) _).setCell (by simp; omega) _⟩

theorem radd_c (a b c d : Int) (w : World) (h1 : vld a b = true) (h2 : vld c d = true) :
    Calls Tryd.prog 11 #[iv a b, iv c d] w fun e w' => e = ivE (clamp (a + c)) (clamp (b + d)) 0 ∧ Below w.heap.size w w' := by
  obtain ⟨a0, a1, a2⟩ := vld_iff.1 h1
  obtain ⟨c0, c1, c2⟩ := vld_iff.1 h2
  go_enter Tryd.func11, Tryd.ntmps11
  go_wp2_with fail
  refine (rvalid_c _ _ _).mono ?_
  rintro e w1 ⟨rfl, hb1⟩
  have k1 := (Bx.start w a b c d).next hb1
  clear hb1
  obtain ⟨kb, ks, ka, kb', kc, kd, kr0, kr1, kf0, kf1⟩ := id k1
  go_wp2_with fail
  refine (rvalid_c _ _ _).mono ?_
  rintro e w2 ⟨rfl, hb2⟩
  have k2 := k1.next hb2
  clear hb2 kb ks ka kb' kc kd kr0 kr1 kf0 kf1 k1
  obtain ⟨kb, ks, ka, kb', kc, kd, kr0, kr1, kf0, kf1⟩ := id k2
  have n1 : w.heap.size ≠ w.heap.size + 1 + 1 := by omega
  have n1' : ¬ (w.heap.size + 1 + 1 = w.heap.size) := by omega
  have n2 : w.heap.size + 1 ≠ w.heap.size + 1 + 1 := by omega
  have e1 : IntKind.i64.wrap (a + c) = a + c := IntWalk.i64_in _ ⟨by omega, by omega⟩
  have e2 : IntKind.i64.wrap (b + d) = b + d := IntWalk.i64_in _ ⟨by omega, by omega⟩
  go_wp2_with fail
  go_region_held3 (fun w' => w'.cell? ⟨w.heap.size, 0, none⟩ = some (.int .i64 a) ∧ w'.cell? ⟨w.heap.size, 1, none⟩ = some (.int .i64 b) ∧ w'.cell? ⟨w.heap.size + 1, 0, none⟩ = some (.int .i64 c) ∧ w'.cell? ⟨w.heap.size + 1, 1, none⟩ = some (.int .i64 d)) (first | go_keep | exact ⟨keep_cell n1 ka, keep_cell n1 kb', keep_cell n2 kc, keep_cell n2 kd⟩)
    (first | (go_at_call 12; refine (clamp_c _ _).mono ?_; rintro e w3 ⟨rfl, rfl⟩))
  all_goals go_wp2_with fail
  all_goals exact bodyPost_ret (v := .tuple #[iv (clamp (a + c)) (clamp (b + d)), .int .i64 0]) (by simp [results, Tryd.results11, go_sem, *]) rfl ⟨rfl, ((kb.setCell (by simp; omega) _).setCell (by simp; omega) _).drew⟩

theorem radd_no (a b c d : Int) (w : World) (h : ¬ (vld a b = true ∧ vld c d = true)) :
    Calls Tryd.prog 11 #[iv a b, iv c d] w fun e w' => e = ivE 0 0 1 ∧ Below w.heap.size w w' := by
  by_cases h1 : vld a b = true
  · have h2 : vld c d = false := by simpa [h1] using h
    clear h
    go_enter Tryd.func11, Tryd.ntmps11
    go_wp2_with fail
    refine (rvalid_c _ _ _).mono ?_
    rintro e w1 ⟨rfl, hb1⟩
    have k1 := (Bx.start w a b c d).next hb1
    clear hb1
    obtain ⟨kb, ks, ka, kb', kc, kd, kr0, kr1, kf0, kf1⟩ := id k1
    go_wp2_with fail
    refine (rvalid_c _ _ _).mono ?_
    rintro e w2 ⟨rfl, hb2⟩
    have k2 := k1.next hb2
    clear hb2 kb ks ka kb' kc kd kr0 kr1 kf0 kf1 k1
    obtain ⟨kb, ks, ka, kb', kc, kd, kr0, kr1, kf0, kf1⟩ := id k2
    go_wp2_with fail
    exact bodyPost_ret (v := .tuple #[iv 0 0, .int .i64 1]) (by simp [results, Tryd.results11, go_sem, *]) rfl ⟨rfl, (kb.setCell (by simp; omega) _).setCell (by simp; omega) _⟩
  · have h2 : vld a b = false := by simpa using h1
    clear h h1
    go_enter Tryd.func11, Tryd.ntmps11
    go_wp2_with fail
    refine (rvalid_c _ _ _).mono ?_
    rintro e w1 ⟨rfl, hb1⟩
    have k1 := (Bx.start w a b c d).next hb1
    clear hb1
    obtain ⟨kb, ks, ka, kb', kc, kd, kr0, kr1, kf0, kf1⟩ := id k1
    go_wp2_with fail
    exact bodyPost_ret (v := .tuple #[iv 0 0, .int .i64 1]) (by simp [results, Tryd.results11, go_sem, *]) rfl ⟨rfl, (kb.setCell (by simp; omega) _).setCell (by simp; omega) _⟩

theorem rsub_c (a b c d : Int) (w : World) (h1 : vld a b = true) (h2 : vld c d = true) :
    Calls Tryd.prog 19 #[iv a b, iv c d] w fun e w' => e = ivE (clamp (a - d)) (clamp (b - c)) 0 ∧ Below w.heap.size w w' := by
  obtain ⟨a0, a1, a2⟩ := vld_iff.1 h1
  obtain ⟨c0, c1, c2⟩ := vld_iff.1 h2
  go_enter Tryd.func19, Tryd.ntmps19
  go_wp2_with fail
  refine (rvalid_c _ _ _).mono ?_
  rintro e w1 ⟨rfl, hb1⟩
  have k1 := (Bx.start w a b c d).next hb1
  clear hb1
  obtain ⟨kb, ks, ka, kb', kc, kd, kr0, kr1, kf0, kf1⟩ := id k1
  go_wp2_with fail
  refine (rvalid_c _ _ _).mono ?_
  rintro e w2 ⟨rfl, hb2⟩
  have k2 := k1.next hb2
  clear hb2 kb ks ka kb' kc kd kr0 kr1 kf0 kf1 k1
  obtain ⟨kb, ks, ka, kb', kc, kd, kr0, kr1, kf0, kf1⟩ := id k2
  have n1 : w.heap.size ≠ w.heap.size + 1 + 1 := by omega
  have n1' : ¬ (w.heap.size + 1 + 1 = w.heap.size) := by omega
  have n2 : w.heap.size + 1 ≠ w.heap.size + 1 + 1 := by omega
  have e1 : IntKind.i64.wrap (a - d) = a - d := IntWalk.i64_in _ ⟨by omega, by omega⟩
  have e2 : IntKind.i64.wrap (b - c) = b - c := IntWalk.i64_in _ ⟨by omega, by omega⟩
  go_wp2_with fail
  go_region_held3 (fun w' => w'.cell? ⟨w.heap.size, 0, none⟩ = some (.int .i64 a) ∧ w'.cell? ⟨w.heap.size, 1, none⟩ = some (.int .i64 b) ∧ w'.cell? ⟨w.heap.size + 1, 0, none⟩ = some (.int .i64 c) ∧ w'.cell? ⟨w.heap.size + 1, 1, none⟩ = some (.int .i64 d)) (first | go_keep | exact ⟨keep_cell n1 ka, keep_cell n1 kb', keep_cell n2 kc, keep_cell n2 kd⟩)
    (first | (go_at_call 12; refine (clamp_c _ _).mono ?_; rintro e w3 ⟨rfl, rfl⟩))
  all_goals go_wp2_with fail
  all_goals exact bodyPost_ret (v := .tuple #[iv (clamp (a - d)) (clamp (b - c)), .int .i64 0]) (by simp [results, Tryd.results19, go_sem, *]) rfl ⟨rfl, ((kb.setCell (by simp; omega) _).setCell (by simp; omega) _).drew⟩

theorem rsub_no (a b c d : Int) (w : World) (h : ¬ (vld a b = true ∧ vld c d = true)) :
    Calls Tryd.prog 19 #[iv a b, iv c d] w fun e w' => e = ivE 0 0 1 ∧ Below w.heap.size w w' := by
  by_cases h1 : vld a b = true
  · have h2 : vld c d = false := by simpa [h1] using h
    clear h
    go_enter Tryd.func19, Tryd.ntmps19
    go_wp2_with fail
    refine (rvalid_c _ _ _).mono ?_
    rintro e w1 ⟨rfl, hb1⟩
    have k1 := (Bx.start w a b c d).next hb1
    clear hb1
    obtain ⟨kb, ks, ka, kb', kc, kd, kr0, kr1, kf0, kf1⟩ := id k1
    go_wp2_with fail
    refine (rvalid_c _ _ _).mono ?_
    rintro e w2 ⟨rfl, hb2⟩
    have k2 := k1.next hb2
    clear hb2 kb ks ka kb' kc kd kr0 kr1 kf0 kf1 k1
    obtain ⟨kb, ks, ka, kb', kc, kd, kr0, kr1, kf0, kf1⟩ := id k2
    go_wp2_with fail
    exact bodyPost_ret (v := .tuple #[iv 0 0, .int .i64 1]) (by simp [results, Tryd.results19, go_sem, *]) rfl ⟨rfl, (kb.setCell (by simp; omega) _).setCell (by simp; omega) _⟩
  · have h2 : vld a b = false := by simpa using h1
    clear h h1
    go_enter Tryd.func19, Tryd.ntmps19
    go_wp2_with fail
    refine (rvalid_c _ _ _).mono ?_
    rintro e w1 ⟨rfl, hb1⟩
    have k1 := (Bx.start w a b c d).next hb1
    clear hb1
    obtain ⟨kb, ks, ka, kb', kc, kd, kr0, kr1, kf0, kf1⟩ := id k1
    go_wp2_with fail
    exact bodyPost_ret (v := .tuple #[iv 0 0, .int .i64 1]) (by simp [results, Tryd.results19, go_sem, *]) rfl ⟨rfl, (kb.setCell (by simp; omega) _).setCell (by simp; omega) _⟩

theorem hull_c (a b c d : Int) (w : World) (h1 : vld a b = true) (h2 : vld c d = true) :
    Calls Tryd.prog 28 #[iv a b, iv c d] w fun e w' => e = ivE (min a c) (max b d) 0 ∧ Below w.heap.size w w' := by
  obtain ⟨a0, a1, a2⟩ := vld_iff.1 h1
  obtain ⟨c0, c1, c2⟩ := vld_iff.1 h2
  go_enter Tryd.func28, Tryd.ntmps28
  go_wp2_with fail
  refine (valid_c _ _ _).mono ?_
  rintro e w1 ⟨rfl, hb1⟩
  have k1 := (Bx.start w a b c d).next hb1
  clear hb1
  obtain ⟨kb, ks, ka, kb', kc, kd, kr0, kr1, kf0, kf1⟩ := id k1
  go_wp2_with fail
  refine (valid_c _ _ _).mono ?_
  rintro e w2 ⟨rfl, hb2⟩
  have k2 := k1.next hb2
  clear hb2 kb ks ka kb' kc kd kr0 kr1 kf0 kf1 k1
  obtain ⟨kb, ks, ka, kb', kc, kd, kr0, kr1, kf0, kf1⟩ := id k2
  go_wp2_with fail
  exact bodyPost_ret (v := .tuple #[iv (min a c) (max b d), .int .i64 0]) (by simp [results, Tryd.results28, go_sem, *]) rfl ⟨ivE_eq rfl rfl rfl, (kb.setCell (by simp; omega) _).setCell (by simp; omega) _⟩

theorem hull_no (a b c d : Int) (w : World) (h : ¬ (vld a b = true ∧ vld c d = true)) :
    Calls Tryd.prog 28 #[iv a b, iv c d] w fun e w' => e = ivE 0 0 1 ∧ Below w.heap.size w w' := by
  by_cases h1 : vld a b = true
  · have h2 : vld c d = false := by simpa [h1] using h
    clear h
    go_enter Tryd.func28, Tryd.ntmps28
    go_wp2_with fail
    refine (valid_c _ _ _).mono ?_
    rintro e w1 ⟨rfl, hb1⟩
    have k1 := (Bx.start w a b c d).next hb1
    clear hb1
    obtain ⟨kb, ks, ka, kb', kc, kd, kr0, kr1, kf0, kf1⟩ := id k1
    go_wp2_with fail
    refine (valid_c _ _ _).mono ?_
    rintro e w2 ⟨rfl, hb2⟩
    have k2 := k1.next hb2
    clear hb2 kb ks ka kb' kc kd kr0 kr1 kf0 kf1 k1
    obtain ⟨kb, ks, ka, kb', kc, kd, kr0, kr1, kf0, kf1⟩ := id k2
    go_wp2_with fail
    exact bodyPost_ret (v := .tuple #[iv 0 0, .int .i64 1]) (by simp [results, Tryd.results28, go_sem, *]) rfl ⟨rfl, (kb.setCell (by simp; omega) _).setCell (by simp; omega) _⟩
  · have h2 : vld a b = false := by simpa using h1
    clear h h1
    go_enter Tryd.func28, Tryd.ntmps28
    go_wp2_with fail
    refine (valid_c _ _ _).mono ?_
    rintro e w1 ⟨rfl, hb1⟩
    have k1 := (Bx.start w a b c d).next hb1
    clear hb1
    obtain ⟨kb, ks, ka, kb', kc, kd, kr0, kr1, kf0, kf1⟩ := id k1
    go_wp2_with fail
    exact bodyPost_ret (v := .tuple #[iv 0 0, .int .i64 1]) (by simp [results, Tryd.results28, go_sem, *]) rfl ⟨rfl, (kb.setCell (by simp; omega) _).setCell (by simp; omega) _⟩

theorem meet_c (a b c d : Int) (w : World) (h1 : vld a b = true) (h2 : vld c d = true) (hm : max a c ≤ min b d) :
    Calls Tryd.prog 29 #[iv a b, iv c d] w fun e w' => e = ivE (max a c) (min b d) 0 ∧ Below w.heap.size w w' := by
  obtain ⟨a0, a1, a2⟩ := vld_iff.1 h1
  obtain ⟨c0, c1, c2⟩ := vld_iff.1 h2
  go_enter Tryd.func29, Tryd.ntmps29
  go_wp2_with fail
  refine (valid_c _ _ _).mono ?_
  rintro e w1 ⟨rfl, hb1⟩
  have k1 := (Bx.start w a b c d).next hb1
  clear hb1
  obtain ⟨kb, ks, ka, kb', kc, kd, kr0, kr1, kf0, kf1⟩ := id k1
  go_wp2_with fail
  refine (valid_c _ _ _).mono ?_
  rintro e w2 ⟨rfl, hb2⟩
  have k2 := k1.next hb2
  clear hb2 kb ks ka kb' kc kd kr0 kr1 kf0 kf1 k1
  obtain ⟨kb, ks, ka, kb', kc, kd, kr0, kr1, kf0, kf1⟩ := id k2
  have z0 : w.heap.size < w2.heap.size := by omega
  have z1 : w.heap.size + 1 < w2.heap.size := by omega
  have z2 : w.heap.size + 1 + 1 < w2.heap.size := by omega
  go_wp2_with fail
  exact bodyPost_ret (v := .tuple #[iv (max a c) (min b d), .int .i64 0]) (by simp [results, Tryd.results29, go_sem, *]) rfl ⟨ivE_eq rfl rfl rfl, (by repeat' first | exact kb | refine Below.drew ?_ | refine Below.alloc ?_ ?_ _ | refine Below.setCell ?_ ?_ _ | omega | (simp; omega))⟩

theorem meet_no (a b c d : Int) (w : World) (h : ¬ (vld a b = true ∧ vld c d = true)) :
    Calls Tryd.prog 29 #[iv a b, iv c d] w fun e w' => e = ivE 0 0 1 ∧ Below w.heap.size w w' := by
  by_cases h1 : vld a b = true
  · have h2 : vld c d = false := by simpa [h1] using h
    clear h
    go_enter Tryd.func29, Tryd.ntmps29
    go_wp2_with fail
    refine (valid_c _ _ _).mono ?_
    rintro e w1 ⟨rfl, hb1⟩
    have k1 := (Bx.start w a b c d).next hb1
    clear hb1
    obtain ⟨kb, ks, ka, kb', kc, kd, kr0, kr1, kf0, kf1⟩ := id k1
    go_wp2_with fail
    refine (valid_c _ _ _).mono ?_
    rintro e w2 ⟨rfl, hb2⟩
    have k2 := k1.next hb2
    clear hb2 kb ks ka kb' kc kd kr0 kr1 kf0 kf1 k1
    obtain ⟨kb, ks, ka, kb', kc, kd, kr0, kr1, kf0, kf1⟩ := id k2
    go_wp2_with fail
    exact bodyPost_ret (v := .tuple #[iv 0 0, .int .i64 1]) (by simp [results, Tryd.results29, go_sem, *]) rfl ⟨rfl, (kb.setCell (by simp; omega) _).setCell (by simp; omega) _⟩
  · have h2 : vld a b = false := by simpa using h1
    clear h h1
    go_enter Tryd.func29, Tryd.ntmps29
    go_wp2_with fail
    refine (valid_c _ _ _).mono ?_
    rintro e w1 ⟨rfl, hb1⟩
    have k1 := (Bx.start w a b c d).next hb1
    clear hb1
    obtain ⟨kb, ks, ka, kb', kc, kd, kr0, kr1, kf0, kf1⟩ := id k1
    go_wp2_with fail
    exact bodyPost_ret (v := .tuple #[iv 0 0, .int .i64 1]) (by simp [results, Tryd.results29, go_sem, *]) rfl ⟨rfl, (kb.setCell (by simp; omega) _).setCell (by simp; omega) _⟩

theorem meetE_c (a b c d : Int) (w : World) (h1 : vld a b = true) (h2 : vld c d = true) (hm : ¬ max a c ≤ min b d) :
    Calls Tryd.prog 29 #[iv a b, iv c d] w fun e w' => e = ivE 0 0 8 ∧ Below w.heap.size w w' := by
  obtain ⟨a0, a1, a2⟩ := vld_iff.1 h1
  obtain ⟨c0, c1, c2⟩ := vld_iff.1 h2
  go_enter Tryd.func29, Tryd.ntmps29
  go_wp2_with fail
  refine (valid_c _ _ _).mono ?_
  rintro e w1 ⟨rfl, hb1⟩
  have k1 := (Bx.start w a b c d).next hb1
  clear hb1
  obtain ⟨kb, ks, ka, kb', kc, kd, kr0, kr1, kf0, kf1⟩ := id k1
  go_wp2_with fail
  refine (valid_c _ _ _).mono ?_
  rintro e w2 ⟨rfl, hb2⟩
  have k2 := k1.next hb2
  clear hb2 kb ks ka kb' kc kd kr0 kr1 kf0 kf1 k1
  obtain ⟨kb, ks, ka, kb', kc, kd, kr0, kr1, kf0, kf1⟩ := id k2
  have z0 : w.heap.size < w2.heap.size := by omega
  have z1 : w.heap.size + 1 < w2.heap.size := by omega
  have z2 : w.heap.size + 1 + 1 < w2.heap.size := by omega
  go_wp2_with fail
  exact bodyPost_ret (v := .tuple #[iv 0 0, .int .i64 8]) (by simp [results, Tryd.results29, go_sem, *]) rfl ⟨ivE_eq rfl rfl rfl, (by repeat' first | exact kb | refine Below.drew ?_ | refine Below.alloc ?_ ?_ _ | refine Below.setCell ?_ ?_ _ | omega | (simp; omega))⟩

theorem rhull1_c (a b c d : Int) (w : World) (h1 : vld a b = true) (h2 : vld c d = true) (h3 : c < a) (h4 : b < d) :
    Calls Tryd.prog 30 #[iv a b, iv c d] w fun e w' => e = ivE (min a c) (max b d) 0 ∧ Below w.heap.size w w' := by
  obtain ⟨a0, a1, a2⟩ := vld_iff.1 h1
  obtain ⟨c0, c1, c2⟩ := vld_iff.1 h2
  go_enter Tryd.func30, Tryd.ntmps30
  go_wp2_with fail
  refine (rvalid_c _ _ _).mono ?_
  rintro e w1 ⟨rfl, hb1⟩
  have k1 := (Bx.start w a b c d).next hb1
  clear hb1
  obtain ⟨kb, ks, ka, kb', kc, kd, kr0, kr1, kf0, kf1⟩ := id k1
  go_wp2_with fail
  refine (rvalid_c _ _ _).mono ?_
  rintro e w2 ⟨rfl, hb2⟩
  have k2 := k1.next hb2
  clear hb2 kb ks ka kb' kc kd kr0 kr1 kf0 kf1 k1
  obtain ⟨kb, ks, ka, kb', kc, kd, kr0, kr1, kf0, kf1⟩ := id k2
  have z0 : w.heap.size < w2.heap.size := by omega
  have z1 : w.heap.size + 1 < w2.heap.size := by omega
  have z2 : w.heap.size + 1 + 1 < w2.heap.size := by omega
  go_wp2_with fail
  exact bodyPost_ret (v := .tuple #[iv c d, .int .i64 0]) (by simp [results, Tryd.results30, go_sem, *]) rfl ⟨ivE_eq (by omega) (by omega) rfl, (by repeat' first | exact kb | refine Below.drew ?_ | refine Below.alloc ?_ ?_ _ | refine Below.setCell ?_ ?_ _ | omega | (simp; omega))⟩

theorem rhull1_no (a b c d : Int) (w : World) (h : ¬ (vld a b = true ∧ vld c d = true)) :
    Calls Tryd.prog 30 #[iv a b, iv c d] w fun e w' => e = ivE 0 0 1 ∧ Below w.heap.size w w' := by
  by_cases h1 : vld a b = true
  · have h2 : vld c d = false := by simpa [h1] using h
    clear h
    go_enter Tryd.func30, Tryd.ntmps30
    go_wp2_with fail
    refine (rvalid_c _ _ _).mono ?_
    rintro e w1 ⟨rfl, hb1⟩
    have k1 := (Bx.start w a b c d).next hb1
    clear hb1
    obtain ⟨kb, ks, ka, kb', kc, kd, kr0, kr1, kf0, kf1⟩ := id k1
    go_wp2_with fail
    refine (rvalid_c _ _ _).mono ?_
    rintro e w2 ⟨rfl, hb2⟩
    have k2 := k1.next hb2
    clear hb2 kb ks ka kb' kc kd kr0 kr1 kf0 kf1 k1
    obtain ⟨kb, ks, ka, kb', kc, kd, kr0, kr1, kf0, kf1⟩ := id k2
    go_wp2_with fail
    exact bodyPost_ret (v := .tuple #[iv 0 0, .int .i64 1]) (by simp [results, Tryd.results30, go_sem, *]) rfl ⟨rfl, (kb.setCell (by simp; omega) _).setCell (by simp; omega) _⟩
  · have h2 : vld a b = false := by simpa using h1
    clear h h1
    go_enter Tryd.func30, Tryd.ntmps30
    go_wp2_with fail
    refine (rvalid_c _ _ _).mono ?_
    rintro e w1 ⟨rfl, hb1⟩
    have k1 := (Bx.start w a b c d).next hb1
    clear hb1
    obtain ⟨kb, ks, ka, kb', kc, kd, kr0, kr1, kf0, kf1⟩ := id k1
    go_wp2_with fail
    exact bodyPost_ret (v := .tuple #[iv 0 0, .int .i64 1]) (by simp [results, Tryd.results30, go_sem, *]) rfl ⟨rfl, (kb.setCell (by simp; omega) _).setCell (by simp; omega) _⟩

theorem rhull2_c (a b c d : Int) (w : World) (h1 : vld a b = true) (h2 : vld c d = true) (h3 : c < a) (h4 : ¬ b < d) :
    Calls Tryd.prog 30 #[iv a b, iv c d] w fun e w' => e = ivE (min a c) (max b d) 0 ∧ Below w.heap.size w w' := by
  obtain ⟨a0, a1, a2⟩ := vld_iff.1 h1
  obtain ⟨c0, c1, c2⟩ := vld_iff.1 h2
  go_enter Tryd.func30, Tryd.ntmps30
  go_wp2_with fail
  refine (rvalid_c _ _ _).mono ?_
  rintro e w1 ⟨rfl, hb1⟩
  have k1 := (Bx.start w a b c d).next hb1
  clear hb1
  obtain ⟨kb, ks, ka, kb', kc, kd, kr0, kr1, kf0, kf1⟩ := id k1
  go_wp2_with fail
  refine (rvalid_c _ _ _).mono ?_
  rintro e w2 ⟨rfl, hb2⟩
  have k2 := k1.next hb2
  clear hb2 kb ks ka kb' kc kd kr0 kr1 kf0 kf1 k1
  obtain ⟨kb, ks, ka, kb', kc, kd, kr0, kr1, kf0, kf1⟩ := id k2
  have z0 : w.heap.size < w2.heap.size := by omega
  have z1 : w.heap.size + 1 < w2.heap.size := by omega
  have z2 : w.heap.size + 1 + 1 < w2.heap.size := by omega
  go_wp2_with fail
  exact bodyPost_ret (v := .tuple #[iv c b, .int .i64 0]) (by simp [results, Tryd.results30, go_sem, *]) rfl ⟨ivE_eq (by omega) (by omega) rfl, (by repeat' first | exact kb | refine Below.drew ?_ | refine Below.alloc ?_ ?_ _ | refine Below.setCell ?_ ?_ _ | omega | (simp; omega))⟩

theorem rhull3_c (a b c d : Int) (w : World) (h1 : vld a b = true) (h2 : vld c d = true) (h3 : ¬ c < a) (h4 : b < d) :
    Calls Tryd.prog 30 #[iv a b, iv c d] w fun e w' => e = ivE (min a c) (max b d) 0 ∧ Below w.heap.size w w' := by
  obtain ⟨a0, a1, a2⟩ := vld_iff.1 h1
  obtain ⟨c0, c1, c2⟩ := vld_iff.1 h2
  go_enter Tryd.func30, Tryd.ntmps30
  go_wp2_with fail
  refine (rvalid_c _ _ _).mono ?_
  rintro e w1 ⟨rfl, hb1⟩
  have k1 := (Bx.start w a b c d).next hb1
  clear hb1
  obtain ⟨kb, ks, ka, kb', kc, kd, kr0, kr1, kf0, kf1⟩ := id k1
  go_wp2_with fail
  refine (rvalid_c _ _ _).mono ?_
  rintro e w2 ⟨rfl, hb2⟩
  have k2 := k1.next hb2
  clear hb2 kb ks ka kb' kc kd kr0 kr1 kf0 kf1 k1
  obtain ⟨kb, ks, ka, kb', kc, kd, kr0, kr1, kf0, kf1⟩ := id k2
  have z0 : w.heap.size < w2.heap.size := by omega
  have z1 : w.heap.size + 1 < w2.heap.size := by omega
  have z2 : w.heap.size + 1 + 1 < w2.heap.size := by omega
  go_wp2_with fail
  exact bodyPost_ret (v := .tuple #[iv a d, .int .i64 0]) (by simp [results, Tryd.results30, go_sem, *]) rfl ⟨ivE_eq (by omega) (by omega) rfl, (by repeat' first | exact kb | refine Below.drew ?_ | refine Below.alloc ?_ ?_ _ | refine Below.setCell ?_ ?_ _ | omega | (simp; omega))⟩

theorem rhull4_c (a b c d : Int) (w : World) (h1 : vld a b = true) (h2 : vld c d = true) (h3 : ¬ c < a) (h4 : ¬ b < d) :
    Calls Tryd.prog 30 #[iv a b, iv c d] w fun e w' => e = ivE (min a c) (max b d) 0 ∧ Below w.heap.size w w' := by
  obtain ⟨a0, a1, a2⟩ := vld_iff.1 h1
  obtain ⟨c0, c1, c2⟩ := vld_iff.1 h2
  go_enter Tryd.func30, Tryd.ntmps30
  go_wp2_with fail
  refine (rvalid_c _ _ _).mono ?_
  rintro e w1 ⟨rfl, hb1⟩
  have k1 := (Bx.start w a b c d).next hb1
  clear hb1
  obtain ⟨kb, ks, ka, kb', kc, kd, kr0, kr1, kf0, kf1⟩ := id k1
  go_wp2_with fail
  refine (rvalid_c _ _ _).mono ?_
  rintro e w2 ⟨rfl, hb2⟩
  have k2 := k1.next hb2
  clear hb2 kb ks ka kb' kc kd kr0 kr1 kf0 kf1 k1
  obtain ⟨kb, ks, ka, kb', kc, kd, kr0, kr1, kf0, kf1⟩ := id k2
  have z0 : w.heap.size < w2.heap.size := by omega
  have z1 : w.heap.size + 1 < w2.heap.size := by omega
  have z2 : w.heap.size + 1 + 1 < w2.heap.size := by omega
  go_wp2_with fail
  exact bodyPost_ret (v := .tuple #[iv a b, .int .i64 0]) (by simp [results, Tryd.results30, go_sem, *]) rfl ⟨ivE_eq (by omega) (by omega) rfl, (by repeat' first | exact kb | refine Below.drew ?_ | refine Below.alloc ?_ ?_ _ | refine Below.setCell ?_ ?_ _ | omega | (simp; omega))⟩

theorem rmeet0_c (a b c d : Int) (w : World) (h1 : vld a b = true) (h2 : vld c d = true) (h3 : a < c) (h4 : d < b) (hm : c ≤ d) :
    Calls Tryd.prog 31 #[iv a b, iv c d] w fun e w' => e = ivE c d 0 ∧ Below w.heap.size w w' := by
  obtain ⟨a0, a1, a2⟩ := vld_iff.1 h1
  obtain ⟨c0, c1, c2⟩ := vld_iff.1 h2
  go_enter Tryd.func31, Tryd.ntmps31
  go_wp2_with fail
  refine (rvalid_c _ _ _).mono ?_
  rintro e w1 ⟨rfl, hb1⟩
  have k1 := (Bx.start w a b c d).next hb1
  clear hb1
  obtain ⟨kb, ks, ka, kb', kc, kd, kr0, kr1, kf0, kf1⟩ := id k1
  go_wp2_with fail
  refine (rvalid_c _ _ _).mono ?_
  rintro e w2 ⟨rfl, hb2⟩
  have k2 := k1.next hb2
  clear hb2 kb ks ka kb' kc kd kr0 kr1 kf0 kf1 k1
  obtain ⟨kb, ks, ka, kb', kc, kd, kr0, kr1, kf0, kf1⟩ := id k2
  have z0 : w.heap.size < w2.heap.size := by omega
  have z1 : w.heap.size + 1 < w2.heap.size := by omega
  have z2 : w.heap.size + 1 + 1 < w2.heap.size := by omega
  go_wp2_with fail
  exact bodyPost_ret (v := .tuple #[iv c d, .int .i64 0]) (by simp [results, Tryd.results31, go_sem, *]) rfl ⟨ivE_eq rfl rfl rfl, (by repeat' first | exact kb | refine Below.drew ?_ | refine Below.alloc ?_ ?_ _ | refine Below.setCell ?_ ?_ _ | omega | (simp; omega))⟩

theorem rmeet0_no (a b c d : Int) (w : World) (h : ¬ (vld a b = true ∧ vld c d = true)) :
    Calls Tryd.prog 31 #[iv a b, iv c d] w fun e w' => e = ivE 0 0 1 ∧ Below w.heap.size w w' := by
  by_cases h1 : vld a b = true
  · have h2 : vld c d = false := by simpa [h1] using h
    clear h
    go_enter Tryd.func31, Tryd.ntmps31
    go_wp2_with fail
    refine (rvalid_c _ _ _).mono ?_
    rintro e w1 ⟨rfl, hb1⟩
    have k1 := (Bx.start w a b c d).next hb1
    clear hb1
    obtain ⟨kb, ks, ka, kb', kc, kd, kr0, kr1, kf0, kf1⟩ := id k1
    go_wp2_with fail
    refine (rvalid_c _ _ _).mono ?_
    rintro e w2 ⟨rfl, hb2⟩
    have k2 := k1.next hb2
    clear hb2 kb ks ka kb' kc kd kr0 kr1 kf0 kf1 k1
    obtain ⟨kb, ks, ka, kb', kc, kd, kr0, kr1, kf0, kf1⟩ := id k2
    go_wp2_with fail
    exact bodyPost_ret (v := .tuple #[iv 0 0, .int .i64 1]) (by simp [results, Tryd.results31, go_sem, *]) rfl ⟨rfl, (kb.setCell (by simp; omega) _).setCell (by simp; omega) _⟩
  · have h2 : vld a b = false := by simpa using h1
    clear h h1
    go_enter Tryd.func31, Tryd.ntmps31
    go_wp2_with fail
    refine (rvalid_c _ _ _).mono ?_
    rintro e w1 ⟨rfl, hb1⟩
    have k1 := (Bx.start w a b c d).next hb1
    clear hb1
    obtain ⟨kb, ks, ka, kb', kc, kd, kr0, kr1, kf0, kf1⟩ := id k1
    go_wp2_with fail
    exact bodyPost_ret (v := .tuple #[iv 0 0, .int .i64 1]) (by simp [results, Tryd.results31, go_sem, *]) rfl ⟨rfl, (kb.setCell (by simp; omega) _).setCell (by simp; omega) _⟩

theorem rmeet1_c (a b c d : Int) (w : World) (h1 : vld a b = true) (h2 : vld c d = true) (h3 : a < c) (h4 : ¬ d < b) (hm : c ≤ b) :
    Calls Tryd.prog 31 #[iv a b, iv c d] w fun e w' => e = ivE c b 0 ∧ Below w.heap.size w w' := by
  obtain ⟨a0, a1, a2⟩ := vld_iff.1 h1
  obtain ⟨c0, c1, c2⟩ := vld_iff.1 h2
  go_enter Tryd.func31, Tryd.ntmps31
  go_wp2_with fail
  refine (rvalid_c _ _ _).mono ?_
  rintro e w1 ⟨rfl, hb1⟩
  have k1 := (Bx.start w a b c d).next hb1
  clear hb1
  obtain ⟨kb, ks, ka, kb', kc, kd, kr0, kr1, kf0, kf1⟩ := id k1
  go_wp2_with fail
  refine (rvalid_c _ _ _).mono ?_
  rintro e w2 ⟨rfl, hb2⟩
  have k2 := k1.next hb2
  clear hb2 kb ks ka kb' kc kd kr0 kr1 kf0 kf1 k1
  obtain ⟨kb, ks, ka, kb', kc, kd, kr0, kr1, kf0, kf1⟩ := id k2
  have z0 : w.heap.size < w2.heap.size := by omega
  have z1 : w.heap.size + 1 < w2.heap.size := by omega
  have z2 : w.heap.size + 1 + 1 < w2.heap.size := by omega
  go_wp2_with fail
  exact bodyPost_ret (v := .tuple #[iv c b, .int .i64 0]) (by simp [results, Tryd.results31, go_sem, *]) rfl ⟨ivE_eq rfl rfl rfl, (by repeat' first | exact kb | refine Below.drew ?_ | refine Below.alloc ?_ ?_ _ | refine Below.setCell ?_ ?_ _ | omega | (simp; omega))⟩

theorem rmeetE1_c (a b c d : Int) (w : World) (h1 : vld a b = true) (h2 : vld c d = true) (h3 : a < c) (h4 : ¬ d < b) (hm : ¬ c ≤ b) :
    Calls Tryd.prog 31 #[iv a b, iv c d] w fun e w' => e = ivE 0 0 8 ∧ Below w.heap.size w w' := by
  obtain ⟨a0, a1, a2⟩ := vld_iff.1 h1
  obtain ⟨c0, c1, c2⟩ := vld_iff.1 h2
  go_enter Tryd.func31, Tryd.ntmps31
  go_wp2_with fail
  refine (rvalid_c _ _ _).mono ?_
  rintro e w1 ⟨rfl, hb1⟩
  have k1 := (Bx.start w a b c d).next hb1
  clear hb1
  obtain ⟨kb, ks, ka, kb', kc, kd, kr0, kr1, kf0, kf1⟩ := id k1
  go_wp2_with fail
  refine (rvalid_c _ _ _).mono ?_
  rintro e w2 ⟨rfl, hb2⟩
  have k2 := k1.next hb2
  clear hb2 kb ks ka kb' kc kd kr0 kr1 kf0 kf1 k1
  obtain ⟨kb, ks, ka, kb', kc, kd, kr0, kr1, kf0, kf1⟩ := id k2
  have z0 : w.heap.size < w2.heap.size := by omega
  have z1 : w.heap.size + 1 < w2.heap.size := by omega
  have z2 : w.heap.size + 1 + 1 < w2.heap.size := by omega
  go_wp2_with fail
  exact bodyPost_ret (v := .tuple #[iv 0 0, .int .i64 8]) (by simp [results, Tryd.results31, go_sem, *]) rfl ⟨ivE_eq rfl rfl rfl, (by repeat' first | exact kb | refine Below.drew ?_ | refine Below.alloc ?_ ?_ _ | refine Below.setCell ?_ ?_ _ | omega | (simp; omega))⟩

theorem rmeet2_c (a b c d : Int) (w : World) (h1 : vld a b = true) (h2 : vld c d = true) (h3 : ¬ a < c) (h4 : d < b) (hm : a ≤ d) :
    Calls Tryd.prog 31 #[iv a b, iv c d] w fun e w' => e = ivE a d 0 ∧ Below w.heap.size w w' := by
  obtain ⟨a0, a1, a2⟩ := vld_iff.1 h1
  obtain ⟨c0, c1, c2⟩ := vld_iff.1 h2
  go_enter Tryd.func31, Tryd.ntmps31
  go_wp2_with fail
  refine (rvalid_c _ _ _).mono ?_
  rintro e w1 ⟨rfl, hb1⟩
  have k1 := (Bx.start w a b c d).next hb1
  clear hb1
  obtain ⟨kb, ks, ka, kb', kc, kd, kr0, kr1, kf0, kf1⟩ := id k1
  go_wp2_with fail
  refine (rvalid_c _ _ _).mono ?_
  rintro e w2 ⟨rfl, hb2⟩
  have k2 := k1.next hb2
  clear hb2 kb ks ka kb' kc kd kr0 kr1 kf0 kf1 k1
  obtain ⟨kb, ks, ka, kb', kc, kd, kr0, kr1, kf0, kf1⟩ := id k2
  have z0 : w.heap.size < w2.heap.size := by omega
  have z1 : w.heap.size + 1 < w2.heap.size := by omega
  have z2 : w.heap.size + 1 + 1 < w2.heap.size := by omega
  go_wp2_with fail
  exact bodyPost_ret (v := .tuple #[iv a d, .int .i64 0]) (by simp [results, Tryd.results31, go_sem, *]) rfl ⟨ivE_eq rfl rfl rfl, (by repeat' first | exact kb | refine Below.drew ?_ | refine Below.alloc ?_ ?_ _ | refine Below.setCell ?_ ?_ _ | omega | (simp; omega))⟩

theorem rmeetE2_c (a b c d : Int) (w : World) (h1 : vld a b = true) (h2 : vld c d = true) (h3 : ¬ a < c) (h4 : d < b) (hm : ¬ a ≤ d) :
    Calls Tryd.prog 31 #[iv a b, iv c d] w fun e w' => e = ivE 0 0 8 ∧ Below w.heap.size w w' := by
  obtain ⟨a0, a1, a2⟩ := vld_iff.1 h1
  obtain ⟨c0, c1, c2⟩ := vld_iff.1 h2
  go_enter Tryd.func31, Tryd.ntmps31
  go_wp2_with fail
  refine (rvalid_c _ _ _).mono ?_
  rintro e w1 ⟨rfl, hb1⟩
  have k1 := (Bx.start w a b c d).next hb1
  clear hb1
  obtain ⟨kb, ks, ka, kb', kc, kd, kr0, kr1, kf0, kf1⟩ := id k1
  go_wp2_with fail
  refine (rvalid_c _ _ _).mono ?_
  rintro e w2 ⟨rfl, hb2⟩
  have k2 := k1.next hb2
  clear hb2 kb ks ka kb' kc kd kr0 kr1 kf0 kf1 k1
  obtain ⟨kb, ks, ka, kb', kc, kd, kr0, kr1, kf0, kf1⟩ := id k2
  have z0 : w.heap.size < w2.heap.size := by omega
  have z1 : w.heap.size + 1 < w2.heap.size := by omega
  have z2 : w.heap.size + 1 + 1 < w2.heap.size := by omega
  go_wp2_with fail
  exact bodyPost_ret (v := .tuple #[iv 0 0, .int .i64 8]) (by simp [results, Tryd.results31, go_sem, *]) rfl ⟨ivE_eq rfl rfl rfl, (by repeat' first | exact kb | refine Below.drew ?_ | refine Below.alloc ?_ ?_ _ | refine Below.setCell ?_ ?_ _ | omega | (simp; omega))⟩

theorem rmeet3_c (a b c d : Int) (w : World) (h1 : vld a b = true) (h2 : vld c d = true) (h3 : ¬ a < c) (h4 : ¬ d < b) (hm : a ≤ b) :
    Calls Tryd.prog 31 #[iv a b, iv c d] w fun e w' => e = ivE a b 0 ∧ Below w.heap.size w w' := by
  obtain ⟨a0, a1, a2⟩ := vld_iff.1 h1
  obtain ⟨c0, c1, c2⟩ := vld_iff.1 h2
  go_enter Tryd.func31, Tryd.ntmps31
  go_wp2_with fail
  refine (rvalid_c _ _ _).mono ?_
  rintro e w1 ⟨rfl, hb1⟩
  have k1 := (Bx.start w a b c d).next hb1
  clear hb1
  obtain ⟨kb, ks, ka, kb', kc, kd, kr0, kr1, kf0, kf1⟩ := id k1
  go_wp2_with fail
  refine (rvalid_c _ _ _).mono ?_
  rintro e w2 ⟨rfl, hb2⟩
  have k2 := k1.next hb2
  clear hb2 kb ks ka kb' kc kd kr0 kr1 kf0 kf1 k1
  obtain ⟨kb, ks, ka, kb', kc, kd, kr0, kr1, kf0, kf1⟩ := id k2
  have z0 : w.heap.size < w2.heap.size := by omega
  have z1 : w.heap.size + 1 < w2.heap.size := by omega
  have z2 : w.heap.size + 1 + 1 < w2.heap.size := by omega
  go_wp2_with fail
  exact bodyPost_ret (v := .tuple #[iv a b, .int .i64 0]) (by simp [results, Tryd.results31, go_sem, *]) rfl ⟨ivE_eq rfl rfl rfl, (by repeat' first | exact kb | refine Below.drew ?_ | refine Below.alloc ?_ ?_ _ | refine Below.setCell ?_ ?_ _ | omega | (simp; omega))⟩

theorem rhull_c (a b c d : Int) (w : World) (h1 : vld a b = true) (h2 : vld c d = true) :
    Calls Tryd.prog 30 #[iv a b, iv c d] w fun e w' => e = ivE (min a c) (max b d) 0 ∧ Below w.heap.size w w' := by
  by_cases h3 : c < a <;> by_cases h4 : b < d
  · exact rhull1_c a b c d w h1 h2 h3 h4
  · exact rhull2_c a b c d w h1 h2 h3 h4
  · exact rhull3_c a b c d w h1 h2 h3 h4
  · exact rhull4_c a b c d w h1 h2 h3 h4
theorem rmeet_c (a b c d : Int) (w : World) (h1 : vld a b = true) (h2 : vld c d = true) (hm : max a c ≤ min b d) :
    Calls Tryd.prog 31 #[iv a b, iv c d] w fun e w' => e = ivE (max a c) (min b d) 0 ∧ Below w.heap.size w w' := by
  by_cases h3 : a < c <;> by_cases h4 : d < b
  · rw [show max a c = c by omega, show min b d = d by omega]; exact rmeet0_c a b c d w h1 h2 h3 h4 (by omega)
  · rw [show max a c = c by omega, show min b d = b by omega]; exact rmeet1_c a b c d w h1 h2 h3 h4 (by omega)
  · rw [show max a c = a by omega, show min b d = d by omega]; exact rmeet2_c a b c d w h1 h2 h3 h4 (by omega)
  · rw [show max a c = a by omega, show min b d = b by omega]; exact rmeet3_c a b c d w h1 h2 h3 h4 (by omega)
theorem rmeetE_c (a b c d : Int) (w : World) (h1 : vld a b = true) (h2 : vld c d = true) (hm : ¬ max a c ≤ min b d) :
    Calls Tryd.prog 31 #[iv a b, iv c d] w fun e w' => e = ivE 0 0 8 ∧ Below w.heap.size w w' := by
  obtain ⟨a0, a1, a2⟩ := vld_iff.1 h1
  obtain ⟨c0, c1, c2⟩ := vld_iff.1 h2
  by_cases h3 : a < c <;> by_cases h4 : d < b
  · omega
  · exact rmeetE1_c a b c d w h1 h2 h3 h4 (by omega)
  · exact rmeetE2_c a b c d w h1 h2 h3 h4 (by omega)
  · omega
end Go.Proofs.YtmihogccpgdpaaaDoor
