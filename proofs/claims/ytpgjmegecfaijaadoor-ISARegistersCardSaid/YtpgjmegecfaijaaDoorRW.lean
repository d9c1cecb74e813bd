/-
  Reads and Writes of isa and of trickleref11; the walk of ISARegisters. Printed by gen_rw.py.
-/
import Derived.Test.YtpgjmegecfaijaaDoorRegs
namespace Go.Proofs.YtpgjmegecfaijaaDoor
open Go.RowKit Go.Sort

/-- does field A of an operation say the register that it assigns -/
def defB (op : Int) : Bool := decide ((0 : Int) ∈ shp op.toNat) && !(op == 15 || op == 17 || op == 19 || op == 22 || op == 24 || op == 25 || op == 26 || op == 28)
def lst3 (x y z : Bool) (a b c : Int) : List Int := (if x then [a] else []) ++ ((if y then [b] else []) ++ (if z then [c] else []))
def rds (op a b c : Int) : List Int := setTo (lst3 (decide ((0 : Int) ∈ shp op.toNat) && !defB op) (decide ((1 : Int) ∈ shp op.toNat)) (decide ((2 : Int) ∈ shp op.toNat)) a b c) 8
def readsL (op a b c m : Int) : List Int := if vld op a b c m = true then rds op a b c else []
def writesL (op a b c m : Int) : List Int := if vld op a b c m = true ∧ defB op = true then [a] else []
set_option maxRecDepth 100000 in
set_option maxHeartbeats 1000000 in
theorem defines_c (op : Int) (w : World) : Calls Tryd.prog 49 #[.int .i64 op] w fun e w' => e = .returned (.bool (defB op)) ∧ w' = w := by
  go_enter Tryd.func49, Tryd.ntmps49
  go_wp2_with fail
  all_goals try (refine (shape_c op _).mono ?_; rintro e w1 ⟨rfl, rfl⟩)
  all_goals go_wp2_with fail
  all_goals try (refine (has_0 op.toNat _).mono ?_; rintro e w1 ⟨rfl, rfl⟩)
  all_goals go_wp2_with fail
  all_goals go_ret
  all_goals refine ⟨ret_bool ?_, rfl⟩
  all_goals go_light
  all_goals simp only [beq_iff_eq, beq_eq_false_iff_ne, ne_eq] at *
  all_goals (unfold defB; simp [*])
theorem regs_one (w : World) (x : Int) (t : TypeId) : Calls Tryd.prog 48 #[.slice (some ⟨w.heap.size, 0, none⟩) 1 1] (w.alloc (.cells #[.int .i64 x] t)) (GivesL [x] w) :=
  (regs_c w.heap.size 1 1 [x] [x] (List.mergeSort_singleton _) _ (holds_one w x t) (by simp) rfl (by decide) (by decide) (by rw [show Lib.compact [x] = [x] from by simpa using srt_one x]; exact Nat.le_refl _)).mono fun _ _ ⟨he, L, hg⟩ => by
    rw [show Lib.compact [x] = [x] from by simpa using srt_one x] at he L
    exact ⟨_, _, he, L, grown_below (ba w _) hg (Nat.le_refl _)⟩
theorem regs_two (w : World) (x y : Int) (t : TypeId) : Calls Tryd.prog 48 #[.slice (some ⟨w.heap.size, 0, none⟩) 2 2] (w.alloc (.cells #[.int .i64 x, .int .i64 y] t)) (GivesL (two x y) w) :=
  (regs_c w.heap.size 2 2 [x, y] _ rfl _ (holds_two w x y t) (by simp) rfl (by decide) (by decide) (by rw [srt_two]; exact two_len _ _)).mono fun _ _ ⟨he, L, hg⟩ => by
    rw [srt_two] at he L
    exact ⟨_, _, he, L, grown_below (ba w _) hg (Nat.le_refl _)⟩

theorem def_yes {op : Int} (h : 2 ≤ op ∧ op ≤ 14 ∨ op = 16 ∨ op = 18 ∨ op = 20 ∨ op = 23) : defB op = true := by
  have : op = 2 ∨ op = 3 ∨ op = 4 ∨ op = 5 ∨ op = 6 ∨ op = 7 ∨ op = 8 ∨ op = 9 ∨ op = 10 ∨ op = 11 ∨ op = 12 ∨ op = 13 ∨ op = 14 ∨ op = 16 ∨ op = 18 ∨ op = 20 ∨ op = 23 := by omega
  rcases this with rfl | rfl | rfl | rfl | rfl | rfl | rfl | rfl | rfl | rfl | rfl | rfl | rfl | rfl | rfl | rfl | rfl <;> rfl
theorem def_no {op : Int} (h : op = 1 ∨ op = 15 ∨ op = 17 ∨ op = 19 ∨ op = 21 ∨ op = 22 ∨ 24 ≤ op ∧ op ≤ 30) : defB op = false := by
  have : op = 1 ∨ op = 15 ∨ op = 17 ∨ op = 19 ∨ op = 21 ∨ op = 22 ∨ op = 24 ∨ op = 25 ∨ op = 26 ∨ op = 27 ∨ op = 28 ∨ op = 29 ∨ op = 30 := by omega
  rcases this with rfl | rfl | rfl | rfl | rfl | rfl | rfl | rfl | rfl | rfl | rfl | rfl | rfl <;> rfl
theorem rds_b {op a b c : Int} (h : op = 3 ∨ op = 4 ∨ op = 5 ∨ op = 16 ∨ op = 18) : rds op a b c = setTo [b] 8 := by
  rcases h with rfl | rfl | rfl | rfl | rfl <;> rfl
theorem rds_a {op a b c : Int} (h : op = 15 ∨ op = 19 ∨ op = 22 ∨ op = 24 ∨ op = 25 ∨ op = 26 ∨ op = 28) : rds op a b c = setTo [a] 8 := by
  rcases h with rfl | rfl | rfl | rfl | rfl | rfl | rfl <;> rfl
theorem rds_bc {op a b c : Int} (h : op = 6 ∨ op = 7 ∨ op = 8 ∨ op = 9 ∨ op = 10 ∨ op = 11 ∨ op = 12 ∨ op = 13) : rds op a b c = setTo [b, c] 8 := by
  rcases h with rfl | rfl | rfl | rfl | rfl | rfl | rfl | rfl <;> rfl
theorem rds_ab {op a b c : Int} (h : op = 17) : rds op a b c = setTo [a, b] 8 := by
  rcases h with rfl; rfl
theorem rds_nil {op a b c : Int} (h : op = 1 ∨ op = 2 ∨ op = 14 ∨ op = 20 ∨ op = 21 ∨ op = 23 ∨ op = 27 ∨ op = 29 ∨ op = 30) : rds op a b c = [] := by
  rcases h with rfl | rfl | rfl | rfl | rfl | rfl | rfl | rfl | rfl <;> rfl
set_option maxRecDepth 100000 in
set_option maxHeartbeats 4000000 in
theorem reads_c (op a b c m : Int) (hm : -32768 ≤ m ∧ m ≤ 32767) (w : World) : Calls Tryd.prog 27 #[code op a b c m] w (GivesL (readsL op a b c m) w) := by
  cases hv : vld op a b c m
  · have HN := Lib.hid (show readsL op a b c m = [] from by unfold readsL; rw [if_neg (by rw [hv]; decide)])
    have HV := Lib.hid hv
    clear hv
    go_enter Tryd.func27, Tryd.ntmps27
    go_wp2_with fail
    refine (valid_c op a b c m hm _).mono ?_
    rintro e w1 ⟨rfl, hb1⟩
    rw [HV.out]
    have k1 : Below w.heap.size w w1 := bt (ba w _) hb1
    go_wp2_with fail
    go_ret
    exact gives_nil HN.out k1
  · have HN := Lib.hid (show readsL op a b c m = rds op a b c from by unfold readsL; rw [if_pos hv])
    have HV := Lib.hid hv
    obtain ⟨⟨o0, o1⟩, ⟨a0, a1⟩, ⟨b0, b1⟩, c0', c1'⟩ := vld_bounds hv
    clear hv
    go_enter Tryd.func27, Tryd.ntmps27
    go_wp2_with fail
    have C0 := Cod.new (w := w) op a b c m 24
    refine (valid_c op a b c m hm _).mono ?_
    rintro e w1 ⟨rfl, hb1⟩
    rw [HV.out]
    have k1 : Below w.heap.size w w1 := bt (ba w _) hb1
    replace C0 := C0.next hb1
    obtain ⟨lt, c0, c1, c2, c3, c4, f0, f1, f2, f3, f4⟩ := C0
    clear hb1
    go_wp2_with fail
    all_goals clear lt c0 c1 c2 c3 c4 f0 f1 f2 f3 f4
    all_goals first | ((with_reducible refine (regs_one _ _ _).mono ?_); rintro e w2 ⟨sa, cap, rfl, L, hb2⟩) | ((with_reducible refine (regs_two _ _ _ _).mono ?_); rintro e w2 ⟨sa, cap, rfl, L, hb2⟩) | skip
    all_goals go_wp2_with fail
    all_goals go_ret
    all_goals go_light
    all_goals simp only [beq_iff_eq, beq_eq_false_iff_ne, ne_eq] at *
    all_goals first
      | exact gives_at (HN.out.trans ((rds_b (by omega)).trans (set_one b0 b1))) L (bt k1 hb2)
      | exact gives_at (HN.out.trans ((rds_a (by omega)).trans (set_one a0 a1))) L (bt k1 hb2)
      | exact gives_at (HN.out.trans ((rds_bc (by omega)).trans (set_two b0 b1 c0' c1'))) L (bt k1 hb2)
      | exact gives_at (HN.out.trans ((rds_ab (by omega)).trans (set_two a0 a1 b0 b1))) L (bt k1 hb2)
      | exact gives_nil (HN.out.trans (rds_nil (by omega))) k1

theorem Cod.grownA {B : Nat} {op a b c m : Int} {w w1 : World} {o : Obj} {row : Option Nat} (h : Cod B op a b c m w) (hg : (w.alloc o).grownBy w1 row) (hr : row ≠ some B) : Cod B op a b c m w1 := by
  have l : B < (w.alloc o).heap.size := by have := h.lt; simp; omega
  have hne : some B ≠ row := fun e => hr e.symm
  have h2 : Cod B op a b c m (w.alloc o) := h.next (ba w o)
  have k : ∀ i, w1.cell? ⟨B, i, none⟩ = (w.alloc o).cell? ⟨B, i, none⟩ := fun i => World.cell?_of_block (hg.block B l hne)
  have q : ∀ i, w1.frozen? ⟨B, i, none⟩ = (w.alloc o).frozen? ⟨B, i, none⟩ := fun i => World.frozen?_of_block (hg.block B l hne)
  exact ⟨Nat.lt_of_lt_of_le l hg.size, (k _).trans h2.c0, (k _).trans h2.c1, (k _).trans h2.c2, (k _).trans h2.c3, (k _).trans h2.c4, (q _).trans h2.f0, (q _).trans h2.f1, (q _).trans h2.f2, (q _).trans h2.f3, (q _).trans h2.f4⟩

set_option maxRecDepth 100000 in
set_option maxHeartbeats 2000000 in
theorem rreads_0000 (op a b c m : Int) (hm : -32768 ≤ m ∧ m ≤ 32767) (hv : vld op a b c m = true) (h0 : decide ((0 : Int) ∈ shp op.toNat) = false) (hd : defB op = false) (h1 : decide ((1 : Int) ∈ shp op.toNat) = false) (h2 : decide ((2 : Int) ∈ shp op.toNat) = false) (w : World) : Calls Tryd.prog 28 #[code op a b c m] w (GivesL (readsL op a b c m) w) := by
  obtain ⟨i3, hi3, hz0, hz1, hz2⟩ := info_parts info3
  have HN := Lib.hid (show readsL op a b c m = setTo [] 8 from by unfold readsL rds; rw [if_pos hv, h0, hd, h1, h2]; rfl)
  have HV := Lib.hid hv
  have H0 := Lib.hid h0
  have HD := Lib.hid hd
  have H1 := Lib.hid h1
  have H2 := Lib.hid h2
  clear hv h0 hd h1 h2
  go_enter Tryd.func28, Tryd.ntmps28
  go_wp2_with fail
  have C0 := Cod.new (w := w) op a b c m 24
  refine (rvalid_c op a b c m hm _).mono ?_
  rintro e w1 ⟨rfl, hb1⟩
  rw [HV.out]
  have k1 : Below w.heap.size w w1 := bt (ba w _) hb1
  replace C0 := C0.next hb1
  obtain ⟨lt, c0, c1, c2, c3, c4, f0, f1, f2, f3, f4⟩ := id C0
  have hs1 : w.heap.size + 1 ≤ w1.heap.size := lt
  clear hb1
  go_wp2_with fail
  refine (shape_c op _).mono ?_
  rintro e w2 ⟨rfl, hw⟩
  obtain rfl := hw.symm
  go_wp2_with fail
  refine (has_0 op.toNat _).mono ?_
  rintro e w2 ⟨rfl, hw⟩
  obtain rfl := hw.symm
  rw [H0.out]
  go_wp2_with fail
  refine (has_1 op.toNat _).mono ?_
  rintro e w2 ⟨rfl, hw⟩
  obtain rfl := hw.symm
  rw [H1.out]
  go_wp2_with fail
  refine (has_2 op.toNat _).mono ?_
  rintro e w2 ⟨rfl, hw⟩
  obtain rfl := hw.symm
  rw [H2.out]
  go_wp2_with fail
  refine (set_l [] (by decide) none 0 _ (Lst.empty _)).mono ?_
  rintro e w9 ⟨sa9, cap9, rfl, L9, hb9⟩
  go_wp2_with fail
  go_ret
  exact gives_at HN.out L9 (bt k1 hb9)
set_option maxRecDepth 100000 in
set_option maxHeartbeats 2000000 in
theorem rreads_1100 (op a b c m : Int) (hm : -32768 ≤ m ∧ m ≤ 32767) (hv : vld op a b c m = true) (h0 : decide ((0 : Int) ∈ shp op.toNat) = true) (hd : defB op = true) (h1 : decide ((1 : Int) ∈ shp op.toNat) = false) (h2 : decide ((2 : Int) ∈ shp op.toNat) = false) (w : World) : Calls Tryd.prog 28 #[code op a b c m] w (GivesL (readsL op a b c m) w) := by
  obtain ⟨i3, hi3, hz0, hz1, hz2⟩ := info_parts info3
  have HN := Lib.hid (show readsL op a b c m = setTo [] 8 from by unfold readsL rds; rw [if_pos hv, h0, hd, h1, h2]; rfl)
  have HV := Lib.hid hv
  have H0 := Lib.hid h0
  have HD := Lib.hid hd
  have H1 := Lib.hid h1
  have H2 := Lib.hid h2
  clear hv h0 hd h1 h2
  go_enter Tryd.func28, Tryd.ntmps28
  go_wp2_with fail
  have C0 := Cod.new (w := w) op a b c m 24
  refine (rvalid_c op a b c m hm _).mono ?_
  rintro e w1 ⟨rfl, hb1⟩
  rw [HV.out]
  have k1 : Below w.heap.size w w1 := bt (ba w _) hb1
  replace C0 := C0.next hb1
  obtain ⟨lt, c0, c1, c2, c3, c4, f0, f1, f2, f3, f4⟩ := id C0
  have hs1 : w.heap.size + 1 ≤ w1.heap.size := lt
  clear hb1
  go_wp2_with fail
  refine (shape_c op _).mono ?_
  rintro e w2 ⟨rfl, hw⟩
  obtain rfl := hw.symm
  go_wp2_with fail
  refine (has_0 op.toNat _).mono ?_
  rintro e w2 ⟨rfl, hw⟩
  obtain rfl := hw.symm
  rw [H0.out]
  go_wp2_with fail
  refine (defines_c op _).mono ?_
  rintro e w2 ⟨rfl, hw⟩
  obtain rfl := hw.symm
  rw [HD.out]
  go_wp2_with fail
  refine (has_1 op.toNat _).mono ?_
  rintro e w2 ⟨rfl, hw⟩
  obtain rfl := hw.symm
  rw [H1.out]
  go_wp2_with fail
  refine (has_2 op.toNat _).mono ?_
  rintro e w2 ⟨rfl, hw⟩
  obtain rfl := hw.symm
  rw [H2.out]
  go_wp2_with fail
  refine (set_l [] (by decide) none 0 _ (Lst.empty _)).mono ?_
  rintro e w9 ⟨sa9, cap9, rfl, L9, hb9⟩
  go_wp2_with fail
  go_ret
  exact gives_at HN.out L9 (bt k1 hb9)
set_option maxRecDepth 100000 in
set_option maxHeartbeats 2000000 in
theorem rreads_1000 (op a b c m : Int) (hm : -32768 ≤ m ∧ m ≤ 32767) (hv : vld op a b c m = true) (h0 : decide ((0 : Int) ∈ shp op.toNat) = true) (hd : defB op = false) (h1 : decide ((1 : Int) ∈ shp op.toNat) = false) (h2 : decide ((2 : Int) ∈ shp op.toNat) = false) (w : World) : Calls Tryd.prog 28 #[code op a b c m] w (GivesL (readsL op a b c m) w) := by
  obtain ⟨i3, hi3, hz0, hz1, hz2⟩ := info_parts info3
  have HN := Lib.hid (show readsL op a b c m = setTo [a] 8 from by unfold readsL rds; rw [if_pos hv, h0, hd, h1, h2]; rfl)
  have HV := Lib.hid hv
  have H0 := Lib.hid h0
  have HD := Lib.hid hd
  have H1 := Lib.hid h1
  have H2 := Lib.hid h2
  clear hv h0 hd h1 h2
  go_enter Tryd.func28, Tryd.ntmps28
  go_wp2_with fail
  have C0 := Cod.new (w := w) op a b c m 24
  refine (rvalid_c op a b c m hm _).mono ?_
  rintro e w1 ⟨rfl, hb1⟩
  rw [HV.out]
  have k1 : Below w.heap.size w w1 := bt (ba w _) hb1
  replace C0 := C0.next hb1
  obtain ⟨lt, c0, c1, c2, c3, c4, f0, f1, f2, f3, f4⟩ := id C0
  have hs1 : w.heap.size + 1 ≤ w1.heap.size := lt
  clear hb1
  go_wp2_with fail
  refine (shape_c op _).mono ?_
  rintro e w2 ⟨rfl, hw⟩
  obtain rfl := hw.symm
  go_wp2_with fail
  refine (has_0 op.toNat _).mono ?_
  rintro e w2 ⟨rfl, hw⟩
  obtain rfl := hw.symm
  rw [H0.out]
  go_wp2_with fail
  refine (defines_c op _).mono ?_
  rintro e w2 ⟨rfl, hw⟩
  obtain rfl := hw.symm
  rw [HD.out]
  have own0 := (World.ownsRow_nil w1 (w.heap.size + 1) 3 1)
  go_wp2_with (at_builtin; refine wpList_append_own _ rfl (.tmp 19) (.tmp 22) 37 rfl (w.heap.size + 1) 3 i3 (.int .i64 0) 1 8 Tryd.underlying37 hi3 hz0 hz1 hz2 rfl (by decide) _ 0 [] rfl (own0.alloc _) ⟨w1.heap.size, 0, none⟩ 1 1 [.int .i64 a] rfl rfl (cell_one_new _ _ _) (by intro u hu; simp at hu; subst hu; rfl) (by unfold maxLen; omega) (by omega) (by simp; omega) ?_; intro v1 x1 hown1 hgrow1 hnil1)
  have kx1 : Below w.heap.size w x1 := (k1.alloc (by omega) _).grown hgrow1 (by simp; omega) (fun j hj => by have := (own0.lt j hj).1; omega)
  have hsx1 := kx1.size
  replace C0 : Cod w.heap.size op a b c m x1 := C0.grownA hgrow1 (fun hj => by have := (own0.lt _ hj).1; omega)
  clear lt c0 c1 c2 c3 c4 f0 f1 f2 f3 f4
  obtain ⟨lt, c0, c1, c2, c3, c4, f0, f1, f2, f3, f4⟩ := id C0
  refine (has_1 op.toNat _).mono ?_
  rintro e w2 ⟨rfl, hw⟩
  obtain rfl := hw.symm
  rw [H1.out]
  go_wp2_with fail
  refine (has_2 op.toNat _).mono ?_
  rintro e w2 ⟨rfl, hw⟩
  obtain rfl := hw.symm
  rw [H2.out]
  go_wp2_with fail
  obtain ⟨sa, cap, rfl, LL⟩ := Lst.of_own (l := [a]) (by simpa using hown1)
  refine (set_l [a] (by simp) _ _ _ LL).mono ?_
  rintro e w9 ⟨sa9, cap9, rfl, L9, hb9⟩
  go_wp2_with fail
  go_ret
  exact gives_at HN.out L9 (bt kx1 hb9)
set_option maxRecDepth 100000 in
set_option maxHeartbeats 2000000 in
theorem rreads_1110 (op a b c m : Int) (hm : -32768 ≤ m ∧ m ≤ 32767) (hv : vld op a b c m = true) (h0 : decide ((0 : Int) ∈ shp op.toNat) = true) (hd : defB op = true) (h1 : decide ((1 : Int) ∈ shp op.toNat) = true) (h2 : decide ((2 : Int) ∈ shp op.toNat) = false) (w : World) : Calls Tryd.prog 28 #[code op a b c m] w (GivesL (readsL op a b c m) w) := by
  obtain ⟨i3, hi3, hz0, hz1, hz2⟩ := info_parts info3
  have HN := Lib.hid (show readsL op a b c m = setTo [b] 8 from by unfold readsL rds; rw [if_pos hv, h0, hd, h1, h2]; rfl)
  have HV := Lib.hid hv
  have H0 := Lib.hid h0
  have HD := Lib.hid hd
  have H1 := Lib.hid h1
  have H2 := Lib.hid h2
  clear hv h0 hd h1 h2
  go_enter Tryd.func28, Tryd.ntmps28
  go_wp2_with fail
  have C0 := Cod.new (w := w) op a b c m 24
  refine (rvalid_c op a b c m hm _).mono ?_
  rintro e w1 ⟨rfl, hb1⟩
  rw [HV.out]
  have k1 : Below w.heap.size w w1 := bt (ba w _) hb1
  replace C0 := C0.next hb1
  obtain ⟨lt, c0, c1, c2, c3, c4, f0, f1, f2, f3, f4⟩ := id C0
  have hs1 : w.heap.size + 1 ≤ w1.heap.size := lt
  clear hb1
  go_wp2_with fail
  refine (shape_c op _).mono ?_
  rintro e w2 ⟨rfl, hw⟩
  obtain rfl := hw.symm
  go_wp2_with fail
  refine (has_0 op.toNat _).mono ?_
  rintro e w2 ⟨rfl, hw⟩
  obtain rfl := hw.symm
  rw [H0.out]
  go_wp2_with fail
  refine (defines_c op _).mono ?_
  rintro e w2 ⟨rfl, hw⟩
  obtain rfl := hw.symm
  rw [HD.out]
  go_wp2_with fail
  refine (has_1 op.toNat _).mono ?_
  rintro e w2 ⟨rfl, hw⟩
  obtain rfl := hw.symm
  rw [H1.out]
  have own0 := (World.ownsRow_nil w1 (w.heap.size + 1) 3 1)
  go_wp2_with (at_builtin; refine wpList_append_own _ rfl (.tmp 26) (.tmp 29) 37 rfl (w.heap.size + 1) 3 i3 (.int .i64 0) 1 8 Tryd.underlying37 hi3 hz0 hz1 hz2 rfl (by decide) _ 0 [] rfl (own0.alloc _) ⟨w1.heap.size, 0, none⟩ 1 1 [.int .i64 b] rfl rfl (cell_one_new _ _ _) (by intro u hu; simp at hu; subst hu; rfl) (by unfold maxLen; omega) (by omega) (by simp; omega) ?_; intro v1 x1 hown1 hgrow1 hnil1)
  have kx1 : Below w.heap.size w x1 := (k1.alloc (by omega) _).grown hgrow1 (by simp; omega) (fun j hj => by have := (own0.lt j hj).1; omega)
  have hsx1 := kx1.size
  replace C0 : Cod w.heap.size op a b c m x1 := C0.grownA hgrow1 (fun hj => by have := (own0.lt _ hj).1; omega)
  clear lt c0 c1 c2 c3 c4 f0 f1 f2 f3 f4
  obtain ⟨lt, c0, c1, c2, c3, c4, f0, f1, f2, f3, f4⟩ := id C0
  refine (has_2 op.toNat _).mono ?_
  rintro e w2 ⟨rfl, hw⟩
  obtain rfl := hw.symm
  rw [H2.out]
  go_wp2_with fail
  obtain ⟨sa, cap, rfl, LL⟩ := Lst.of_own (l := [b]) (by simpa using hown1)
  refine (set_l [b] (by simp) _ _ _ LL).mono ?_
  rintro e w9 ⟨sa9, cap9, rfl, L9, hb9⟩
  go_wp2_with fail
  go_ret
  exact gives_at HN.out L9 (bt kx1 hb9)
set_option maxRecDepth 100000 in
set_option maxHeartbeats 2000000 in
theorem rreads_1010 (op a b c m : Int) (hm : -32768 ≤ m ∧ m ≤ 32767) (hv : vld op a b c m = true) (h0 : decide ((0 : Int) ∈ shp op.toNat) = true) (hd : defB op = false) (h1 : decide ((1 : Int) ∈ shp op.toNat) = true) (h2 : decide ((2 : Int) ∈ shp op.toNat) = false) (w : World) : Calls Tryd.prog 28 #[code op a b c m] w (GivesL (readsL op a b c m) w) := by
  obtain ⟨i3, hi3, hz0, hz1, hz2⟩ := info_parts info3
  have HN := Lib.hid (show readsL op a b c m = setTo [a, b] 8 from by unfold readsL rds; rw [if_pos hv, h0, hd, h1, h2]; rfl)
  have HV := Lib.hid hv
  have H0 := Lib.hid h0
  have HD := Lib.hid hd
  have H1 := Lib.hid h1
  have H2 := Lib.hid h2
  clear hv h0 hd h1 h2
  go_enter Tryd.func28, Tryd.ntmps28
  go_wp2_with fail
  have C0 := Cod.new (w := w) op a b c m 24
  refine (rvalid_c op a b c m hm _).mono ?_
  rintro e w1 ⟨rfl, hb1⟩
  rw [HV.out]
  have k1 : Below w.heap.size w w1 := bt (ba w _) hb1
  replace C0 := C0.next hb1
  obtain ⟨lt, c0, c1, c2, c3, c4, f0, f1, f2, f3, f4⟩ := id C0
  have hs1 : w.heap.size + 1 ≤ w1.heap.size := lt
  clear hb1
  go_wp2_with fail
  refine (shape_c op _).mono ?_
  rintro e w2 ⟨rfl, hw⟩
  obtain rfl := hw.symm
  go_wp2_with fail
  refine (has_0 op.toNat _).mono ?_
  rintro e w2 ⟨rfl, hw⟩
  obtain rfl := hw.symm
  rw [H0.out]
  go_wp2_with fail
  refine (defines_c op _).mono ?_
  rintro e w2 ⟨rfl, hw⟩
  obtain rfl := hw.symm
  rw [HD.out]
  have own0 := (World.ownsRow_nil w1 (w.heap.size + 1) 3 1)
  go_wp2_with (at_builtin; refine wpList_append_own _ rfl (.tmp 19) (.tmp 22) 37 rfl (w.heap.size + 1) 3 i3 (.int .i64 0) 1 8 Tryd.underlying37 hi3 hz0 hz1 hz2 rfl (by decide) _ 0 [] rfl (own0.alloc _) ⟨w1.heap.size, 0, none⟩ 1 1 [.int .i64 a] rfl rfl (cell_one_new _ _ _) (by intro u hu; simp at hu; subst hu; rfl) (by unfold maxLen; omega) (by omega) (by simp; omega) ?_; intro v1 x1 hown1 hgrow1 hnil1)
  have kx1 : Below w.heap.size w x1 := (k1.alloc (by omega) _).grown hgrow1 (by simp; omega) (fun j hj => by have := (own0.lt j hj).1; omega)
  have hsx1 := kx1.size
  replace C0 : Cod w.heap.size op a b c m x1 := C0.grownA hgrow1 (fun hj => by have := (own0.lt _ hj).1; omega)
  clear lt c0 c1 c2 c3 c4 f0 f1 f2 f3 f4
  obtain ⟨lt, c0, c1, c2, c3, c4, f0, f1, f2, f3, f4⟩ := id C0
  refine (has_1 op.toNat _).mono ?_
  rintro e w2 ⟨rfl, hw⟩
  obtain rfl := hw.symm
  rw [H1.out]
  have own1 := hown1
  go_wp2_with (at_builtin; refine wpList_append_own _ rfl (.tmp 26) (.tmp 29) 37 rfl (w.heap.size + 1) 3 i3 (.int .i64 0) 1 8 Tryd.underlying37 hi3 hz0 hz1 hz2 rfl (by decide) _ 1 [.int .i64 a] rfl (own1.alloc _) ⟨x1.heap.size, 0, none⟩ 1 1 [.int .i64 b] rfl rfl (cell_one_new _ _ _) (by intro u hu; simp at hu; subst hu; rfl) (by unfold maxLen; omega) (by omega) (by simp; omega) ?_; intro v2 x2 hown2 hgrow2 hnil2)
  have kx2 : Below w.heap.size w x2 := (kx1.alloc (by omega) _).grown hgrow2 (by simp; omega) (fun j hj => by have := (own1.lt j hj).1; omega)
  have hsx2 := kx2.size
  replace C0 : Cod w.heap.size op a b c m x2 := C0.grownA hgrow2 (fun hj => by have := (own1.lt _ hj).1; omega)
  clear lt c0 c1 c2 c3 c4 f0 f1 f2 f3 f4
  obtain ⟨lt, c0, c1, c2, c3, c4, f0, f1, f2, f3, f4⟩ := id C0
  refine (has_2 op.toNat _).mono ?_
  rintro e w2 ⟨rfl, hw⟩
  obtain rfl := hw.symm
  rw [H2.out]
  go_wp2_with fail
  obtain ⟨sa, cap, rfl, LL⟩ := Lst.of_own (l := [a, b]) (by simpa using hown2)
  refine (set_l [a, b] (by simp) _ _ _ LL).mono ?_
  rintro e w9 ⟨sa9, cap9, rfl, L9, hb9⟩
  go_wp2_with fail
  go_ret
  exact gives_at HN.out L9 (bt kx2 hb9)
set_option maxRecDepth 100000 in
set_option maxHeartbeats 2000000 in
theorem rreads_1111 (op a b c m : Int) (hm : -32768 ≤ m ∧ m ≤ 32767) (hv : vld op a b c m = true) (h0 : decide ((0 : Int) ∈ shp op.toNat) = true) (hd : defB op = true) (h1 : decide ((1 : Int) ∈ shp op.toNat) = true) (h2 : decide ((2 : Int) ∈ shp op.toNat) = true) (w : World) : Calls Tryd.prog 28 #[code op a b c m] w (GivesL (readsL op a b c m) w) := by
  obtain ⟨i3, hi3, hz0, hz1, hz2⟩ := info_parts info3
  have HN := Lib.hid (show readsL op a b c m = setTo [b, c] 8 from by unfold readsL rds; rw [if_pos hv, h0, hd, h1, h2]; rfl)
  have HV := Lib.hid hv
  have H0 := Lib.hid h0
  have HD := Lib.hid hd
  have H1 := Lib.hid h1
  have H2 := Lib.hid h2
  clear hv h0 hd h1 h2
  go_enter Tryd.func28, Tryd.ntmps28
  go_wp2_with fail
  have C0 := Cod.new (w := w) op a b c m 24
  refine (rvalid_c op a b c m hm _).mono ?_
  rintro e w1 ⟨rfl, hb1⟩
  rw [HV.out]
  have k1 : Below w.heap.size w w1 := bt (ba w _) hb1
  replace C0 := C0.next hb1
  obtain ⟨lt, c0, c1, c2, c3, c4, f0, f1, f2, f3, f4⟩ := id C0
  have hs1 : w.heap.size + 1 ≤ w1.heap.size := lt
  clear hb1
  go_wp2_with fail
  refine (shape_c op _).mono ?_
  rintro e w2 ⟨rfl, hw⟩
  obtain rfl := hw.symm
  go_wp2_with fail
  refine (has_0 op.toNat _).mono ?_
  rintro e w2 ⟨rfl, hw⟩
  obtain rfl := hw.symm
  rw [H0.out]
  go_wp2_with fail
  refine (defines_c op _).mono ?_
  rintro e w2 ⟨rfl, hw⟩
  obtain rfl := hw.symm
  rw [HD.out]
  go_wp2_with fail
  refine (has_1 op.toNat _).mono ?_
  rintro e w2 ⟨rfl, hw⟩
  obtain rfl := hw.symm
  rw [H1.out]
  have own0 := (World.ownsRow_nil w1 (w.heap.size + 1) 3 1)
  go_wp2_with (at_builtin; refine wpList_append_own _ rfl (.tmp 26) (.tmp 29) 37 rfl (w.heap.size + 1) 3 i3 (.int .i64 0) 1 8 Tryd.underlying37 hi3 hz0 hz1 hz2 rfl (by decide) _ 0 [] rfl (own0.alloc _) ⟨w1.heap.size, 0, none⟩ 1 1 [.int .i64 b] rfl rfl (cell_one_new _ _ _) (by intro u hu; simp at hu; subst hu; rfl) (by unfold maxLen; omega) (by omega) (by simp; omega) ?_; intro v1 x1 hown1 hgrow1 hnil1)
  have kx1 : Below w.heap.size w x1 := (k1.alloc (by omega) _).grown hgrow1 (by simp; omega) (fun j hj => by have := (own0.lt j hj).1; omega)
  have hsx1 := kx1.size
  replace C0 : Cod w.heap.size op a b c m x1 := C0.grownA hgrow1 (fun hj => by have := (own0.lt _ hj).1; omega)
  clear lt c0 c1 c2 c3 c4 f0 f1 f2 f3 f4
  obtain ⟨lt, c0, c1, c2, c3, c4, f0, f1, f2, f3, f4⟩ := id C0
  refine (has_2 op.toNat _).mono ?_
  rintro e w2 ⟨rfl, hw⟩
  obtain rfl := hw.symm
  rw [H2.out]
  have own1 := hown1
  go_wp2_with (at_builtin; refine wpList_append_own _ rfl (.tmp 33) (.tmp 36) 37 rfl (w.heap.size + 1) 3 i3 (.int .i64 0) 1 8 Tryd.underlying37 hi3 hz0 hz1 hz2 rfl (by decide) _ 1 [.int .i64 b] rfl (own1.alloc _) ⟨x1.heap.size, 0, none⟩ 1 1 [.int .i64 c] rfl rfl (cell_one_new _ _ _) (by intro u hu; simp at hu; subst hu; rfl) (by unfold maxLen; omega) (by omega) (by simp; omega) ?_; intro v2 x2 hown2 hgrow2 hnil2)
  have kx2 : Below w.heap.size w x2 := (kx1.alloc (by omega) _).grown hgrow2 (by simp; omega) (fun j hj => by have := (own1.lt j hj).1; omega)
  have hsx2 := kx2.size
  obtain ⟨sa, cap, rfl, LL⟩ := Lst.of_own (l := [b, c]) (by simpa using hown2)
  refine (set_l [b, c] (by simp) _ _ _ LL).mono ?_
  rintro e w9 ⟨sa9, cap9, rfl, L9, hb9⟩
  go_wp2_with fail
  go_ret
  exact gives_at HN.out L9 (bt kx2 hb9)
theorem rreads_c (op a b c m : Int) (hm : -32768 ≤ m ∧ m ≤ 32767) (w : World) : Calls Tryd.prog 28 #[code op a b c m] w (GivesL (readsL op a b c m) w) := by
  cases hv : vld op a b c m
  · have HN := Lib.hid (show readsL op a b c m = [] from by unfold readsL; rw [if_neg (by rw [hv]; decide)])
    have HV := Lib.hid hv
    clear hv
    go_enter Tryd.func28, Tryd.ntmps28
    go_wp2_with fail
    refine (rvalid_c op a b c m hm _).mono ?_
    rintro e w1 ⟨rfl, hb1⟩
    rw [HV.out]
    have k1 : Below w.heap.size w w1 := bt (ba w _) hb1
    go_wp2_with fail
    go_ret
    exact gives_nil HN.out k1
  · obtain ⟨⟨o0, o1⟩, -⟩ := vld_bounds hv
    have hs : (decide ((0 : Int) ∈ shp op.toNat) = false ∧ defB op = false ∧ decide ((1 : Int) ∈ shp op.toNat) = false ∧ decide ((2 : Int) ∈ shp op.toNat) = false) ∨ (decide ((0 : Int) ∈ shp op.toNat) = true ∧ defB op = true ∧ decide ((1 : Int) ∈ shp op.toNat) = false ∧ decide ((2 : Int) ∈ shp op.toNat) = false)
      ∨ (decide ((0 : Int) ∈ shp op.toNat) = true ∧ defB op = false ∧ decide ((1 : Int) ∈ shp op.toNat) = false ∧ decide ((2 : Int) ∈ shp op.toNat) = false) ∨ (decide ((0 : Int) ∈ shp op.toNat) = true ∧ defB op = true ∧ decide ((1 : Int) ∈ shp op.toNat) = true ∧ decide ((2 : Int) ∈ shp op.toNat) = false)
      ∨ (decide ((0 : Int) ∈ shp op.toNat) = true ∧ defB op = false ∧ decide ((1 : Int) ∈ shp op.toNat) = true ∧ decide ((2 : Int) ∈ shp op.toNat) = false) ∨ (decide ((0 : Int) ∈ shp op.toNat) = true ∧ defB op = true ∧ decide ((1 : Int) ∈ shp op.toNat) = true ∧ decide ((2 : Int) ∈ shp op.toNat) = true) := by
      clear hv
      rcases ops_cases ⟨o0, o1⟩ with rfl|rfl|rfl|rfl|rfl|rfl|rfl|rfl|rfl|rfl|rfl|rfl|rfl|rfl|rfl|rfl|rfl|rfl|rfl|rfl|rfl|rfl|rfl|rfl|rfl|rfl|rfl|rfl|rfl|rfl <;> decide
    rcases hs with ⟨h0, hd, h1, h2⟩ | ⟨h0, hd, h1, h2⟩ | ⟨h0, hd, h1, h2⟩ | ⟨h0, hd, h1, h2⟩ | ⟨h0, hd, h1, h2⟩ | ⟨h0, hd, h1, h2⟩
    · exact rreads_0000 op a b c m hm hv h0 hd h1 h2 w
    · exact rreads_1100 op a b c m hm hv h0 hd h1 h2 w
    · exact rreads_1000 op a b c m hm hv h0 hd h1 h2 w
    · exact rreads_1110 op a b c m hm hv h0 hd h1 h2 w
    · exact rreads_1010 op a b c m hm hv h0 hd h1 h2 w
    · exact rreads_1111 op a b c m hm hv h0 hd h1 h2 w
theorem wtl_no {op a b c m : Int} (h : vld op a b c m = false ∨ defB op = false) : writesL op a b c m = [] := by
  unfold writesL
  rw [if_neg (by rcases h with h | h <;> simp [h])]
theorem wtl_yes {op a b c m : Int} (hv : vld op a b c m = true) (h : defB op = true) : writesL op a b c m = [a] := by
  unfold writesL
  rw [if_pos ⟨hv, h⟩]
set_option maxRecDepth 100000 in
set_option maxHeartbeats 4000000 in
theorem writesL_c (op a b c m : Int) (hm : -32768 ≤ m ∧ m ≤ 32767) (w : World) : Calls Tryd.prog 29 #[code op a b c m] w (GivesL (writesL op a b c m) w) := by
  cases hv : vld op a b c m
  · have HN := Lib.hid (wtl_no (a := a) (op := op) (b := b) (c := c) (m := m) (Or.inl hv))
    have HV := Lib.hid hv
    clear hv
    go_enter Tryd.func29, Tryd.ntmps29
    go_wp2_with fail
    refine (valid_c op a b c m hm _).mono ?_
    rintro e w1 ⟨rfl, hb1⟩
    rw [HV.out]
    have k1 : Below w.heap.size w w1 := bt (ba w _) hb1
    go_wp2_with fail
    go_ret
    exact gives_nil HN.out k1
  · have HV := Lib.hid hv
    obtain ⟨⟨o0, o1⟩, ⟨a0, a1⟩, ⟨b0, b1⟩, c0', c1'⟩ := vld_bounds hv
    clear hv
    go_enter Tryd.func29, Tryd.ntmps29
    go_wp2_with fail
    have C0 := Cod.new (w := w) op a b c m 24
    refine (valid_c op a b c m hm _).mono ?_
    rintro e w1 ⟨rfl, hb1⟩
    rw [HV.out]
    have k1 : Below w.heap.size w w1 := bt (ba w _) hb1
    replace C0 := C0.next hb1
    obtain ⟨lt, c0, c1, c2, c3, c4, f0, f1, f2, f3, f4⟩ := C0
    clear hb1
    go_wp2_with fail
    all_goals clear lt c0 c1 c2 c3 c4 f0 f1 f2 f3 f4
    all_goals try ((with_reducible refine (regs_one _ _ _).mono ?_); rintro e w2 ⟨sa, cap, rfl, L, hb2⟩)
    all_goals go_wp2_with fail
    all_goals go_ret
    all_goals go_light
    all_goals simp only [beq_iff_eq, beq_eq_false_iff_ne, ne_eq] at *
    all_goals first
      | exact gives_at (wtl_yes HV.out (def_yes (by omega))) L (bt k1 hb2)
      | exact gives_nil (wtl_no (Or.inr (def_no (by omega)))) k1
theorem rwritesL_c (op a b c m : Int) (hm : -32768 ≤ m ∧ m ≤ 32767) (w : World) : Calls Tryd.prog 30 #[code op a b c m] w (GivesL (writesL op a b c m) w) := by
  cases hv : vld op a b c m
  · have HN := Lib.hid (wtl_no (a := a) (op := op) (b := b) (c := c) (m := m) (Or.inl hv))
    have HV := Lib.hid hv
    clear hv
    go_enter Tryd.func30, Tryd.ntmps30
    go_wp2_with fail
    refine (rvalid_c op a b c m hm _).mono ?_
    rintro e w1 ⟨rfl, hb1⟩
    rw [HV.out]
    have k1 : Below w.heap.size w w1 := bt (ba w _) hb1
    go_wp2_with fail
    go_ret
    exact gives_nil HN.out k1
  · cases hd : defB op
    · have HN := Lib.hid (wtl_no (a := a) (op := op) (b := b) (c := c) (m := m) (Or.inr hd))
      have HV := Lib.hid hv
      have HD := Lib.hid hd
      clear hv hd
      go_enter Tryd.func30, Tryd.ntmps30
      go_wp2_with fail
      have C0 := Cod.new (w := w) op a b c m 24
      refine (rvalid_c op a b c m hm _).mono ?_
      rintro e w1 ⟨rfl, hb1⟩
      rw [HV.out]
      have k1 : Below w.heap.size w w1 := bt (ba w _) hb1
      replace C0 := C0.next hb1
      obtain ⟨lt, c0, c1, c2, c3, c4, f0, f1, f2, f3, f4⟩ := C0
      clear hb1
      go_wp2_with fail
      refine (defines_c op _).mono ?_
      rintro e w2 ⟨rfl, hw⟩
      obtain rfl := hw.symm
      rw [HD.out]
      go_wp2_with fail
      go_ret
      exact gives_nil HN.out k1
    · have HN := Lib.hid (wtl_yes hv hd)
      have HV := Lib.hid hv
      have HD := Lib.hid hd
      clear hv hd
      go_enter Tryd.func30, Tryd.ntmps30
      go_wp2_with fail
      have C0 := Cod.new (w := w) op a b c m 24
      refine (rvalid_c op a b c m hm _).mono ?_
      rintro e w1 ⟨rfl, hb1⟩
      rw [HV.out]
      have k1 : Below w.heap.size w w1 := bt (ba w _) hb1
      replace C0 := C0.next hb1
      obtain ⟨lt, c0, c1, c2, c3, c4, f0, f1, f2, f3, f4⟩ := C0
      clear hb1
      go_wp2_with fail
      refine (defines_c op _).mono ?_
      rintro e w2 ⟨rfl, hw⟩
      obtain rfl := hw.symm
      rw [HD.out]
      go_wp2_with fail
      go_ret
      exact gives_one _ HN.out k1

theorem rds_len (op a b c m : Int) : (readsL op a b c m).length ≤ 10 := by
  unfold readsL rds
  split
  · have := setTo_len (lst3 (decide ((0 : Int) ∈ shp op.toNat) && !defB op) (decide ((1 : Int) ∈ shp op.toNat)) (decide ((2 : Int) ∈ shp op.toNat)) a b c) 8
    omega
  · simp
theorem wts_len (op a b c m : Int) : (writesL op a b c m).length ≤ 10 := by
  unfold writesL
  split <;> simp
set_option maxRecDepth 100000 in
set_option maxHeartbeats 4000000 in
theorem regs_law (op a b c m : Int) (hm : -32768 ≤ m ∧ m ≤ 32767) (w : World) (hr : TabR w) : Calls Tryd.prog 8 #[code op a b c m] w fun e w' => e = .returned (.bool true) ∧ Below w.heap.size w w' := by
  go_enter Tryd.func8, Tryd.ntmps8
  go_wp2_with fail
  have C0 := Cod.new (w := w) op a b c m 24
  refine (wakes_c _ (hr.below (ba w _))).mono ?_
  rintro e w1 ⟨rfl, hb1⟩
  have K : KC w w.heap.size op a b c m w1 := ⟨bt (ba w _) hb1, C0.next hb1⟩
  clear hb1 C0
  go_wp2_with fail
  have K1 := K.next w1.drewB
  go_region_held3 (fun w' => w'.cell? ⟨w.heap.size, 0, none⟩ = some (.int .i64 op) ∧ w'.cell? ⟨w.heap.size, 1, none⟩ = some (.int .i64 a) ∧ w'.cell? ⟨w.heap.size, 2, none⟩ = some (.int .i64 b) ∧ w'.cell? ⟨w.heap.size, 3, none⟩ = some (.int .i64 c) ∧ w'.cell? ⟨w.heap.size, 4, none⟩ = some (.int .i16 m) ∧ KC w w.heap.size op a b c m w')
    (first | exact ⟨K1.cod.c0, K1.cod.c1, K1.cod.c2, K1.cod.c3, K1.cod.c4, K1⟩ | exact ⟨K.cod.c0, K.cod.c1, K.cod.c2, K.cod.c3, K.cod.c4, K⟩ | go_keep)
    (first | (go_at_call 27; (with_reducible refine (reads_c op a b c m hm _).mono ?_); rintro e w2 ⟨sa, ca, rfl, LA, hb2⟩; replace K1 := K1.next hb2; (try (replace LB := LB.next hb2))) | (go_at_call 28; (with_reducible refine (rreads_c op a b c m hm _).mono ?_); rintro e w2 ⟨sb, cb, rfl, LB, hb2⟩; replace K1 := K1.next hb2; (try (replace LA := LA.next hb2))) | (go_at_call 29; (with_reducible refine (writesL_c op a b c m hm _).mono ?_); rintro e w2 ⟨sc, cc, rfl, LC, hb2⟩; replace K1 := K1.next hb2; (try (replace LD := LD.next hb2))) | (go_at_call 30; (with_reducible refine (rwritesL_c op a b c m hm _).mono ?_); rintro e w2 ⟨sd, cd, rfl, LD, hb2⟩; replace K1 := K1.next hb2; (try (replace LC := LC.next hb2))) | (go_at_call 24; (with_reducible refine (same_yes _ (wts_len op a b c m) _ _ _ _ _ LC LD).mono ?_); rintro e w2 ⟨rfl, hb2⟩; replace K1 := K1.next hb2) | (go_at_call 24; (with_reducible refine (same_yes _ (rds_len op a b c m) _ _ _ _ _ LA LB).mono ?_); rintro e w2 ⟨rfl, hb2⟩; replace K1 := K1.next hb2))
  all_goals go_wp2_with fail
  all_goals go_ret
  all_goals exact ⟨rfl, K1.below⟩

end Go.Proofs.YtpgjmegecfaijaaDoor
