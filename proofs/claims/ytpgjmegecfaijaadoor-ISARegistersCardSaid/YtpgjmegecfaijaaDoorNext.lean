/-
  Next of isa and of trickleref11, Same; the walk of ISANext.
-/
import Derived.Test.YtpgjmegecfaijaaDoorSrt
import Derived.Test.YtpgjmegecfaijaaDoorLaws
namespace Go.Proofs.YtpgjmegecfaijaaDoor
open Go.RowKit Go.Sort

theorem same_yes (l : List Int) (hl : l.length ≤ 10) (sa sb : Option Addr) (ca cb : Nat) (w : World) (La : Lst w sa l) (Lb : Lst w sb l) : Calls Tryd.prog 24 #[.slice sa l.length ca, .slice sb l.length cb] w fun e w' => e = .returned (.bool true) ∧ Below w.heap.size w w' := by
  have HA := Lib.hid La
  have HB := Lib.hid Lb
  have hl3 : (l.length : Int) ≤ 10 := by omega
  clear La Lb
  go_enter Tryd.func24, Tryd.ntmps24
  go_wp2_with fail
  go_loopw [5] (fun i wr => ∃ k : Nat, k ≤ l.length ∧ i = .int .i64 k ∧ Below w.heap.size w wr) (fun i _ => l.length - (intOf i).toNat)
  case atStart => exact ⟨0, by omega, rfl, Below.refl _ _⟩
  case round =>
    obtain ⟨k, hk, rfl, hbr⟩ := hrel
    by_cases hlt : k < l.length
    · obtain ⟨b1, rfl, hb1, hc1⟩ := (HA.out.next hbr).at_ k _ (List.getElem?_eq_getElem hlt)
      obtain ⟨b2, rfl, hb2, hc2⟩ := (HB.out.next hbr).at_ k _ (List.getElem?_eq_getElem hlt)
      generalize l[k] = x at *
      go_wp2_with fail
      go_quiet (fail)
      go_wp2_with fail
      all_goals go_roundw
      case rel => exact ⟨k + 1, by omega, by go_num, by first | exact bdn hbr _ | exact hbr⟩
      case measure => simp [intOf]; omega
    · go_wp2_with fail
      go_ret
      exact ⟨rfl, hbr⟩

def nxt (op a b c m pc : Int) : List Int := if vld op a b c m = false ∨ pc < 0 ∨ 480 ≤ pc then [] else if op = 1 then [] else if op = 21 then [m] else if op = 22 then two (pc + 1) m else [pc + 1]
/-- a list of numbers handed back -/
def GivesL (l : List Int) (w : World) (e : Ending) (w' : World) : Prop := ∃ sa cap, e = .returned (.slice sa l.length cap) ∧ Lst w' sa l ∧ Below w.heap.size w w'
theorem two_len (x y : Int) : (two x y).length ≤ 2 := by
  unfold two
  split
  · simp
  · split <;> simp
theorem holds_two (w : World) (x y : Int) (t : TypeId) : Holds (Value.int .i64) (w.alloc (.cells #[.int .i64 x, .int .i64 y] t)) w.heap.size 0 [x, y].toArray := by
  intro j hj
  match j, hj with
  | 0, _ => exact ⟨(World.cell?_alloc_at _ _ _ _ rfl).trans rfl, World.frozen?_alloc_at _ _ _ _ rfl⟩
  | 1, _ => exact ⟨(World.cell?_alloc_at _ _ _ _ rfl).trans rfl, World.frozen?_alloc_at _ _ _ _ rfl⟩
  | j + 2, h => simp at h; omega
theorem holds_one (w : World) (x : Int) (t : TypeId) : Holds (Value.int .i64) (w.alloc (.cells #[.int .i64 x] t)) w.heap.size 0 [x].toArray := by
  intro j hj
  match j, hj with
  | 0, _ => exact ⟨(World.cell?_alloc_at _ _ _ _ rfl).trans rfl, World.frozen?_alloc_at _ _ _ _ rfl⟩
  | j + 1, h => simp at h
theorem lst_one (w : World) (x : Int) (t : TypeId) : Lst (w.alloc (.cells #[.int .i64 x] t)) (some ⟨w.heap.size, 0, none⟩) [x] :=
  ⟨fun j y hj => by
    match j with
    | 0 => simp at hj; subst hj; exact ⟨_, rfl, by simp, (World.cell?_alloc_at _ _ _ _ rfl).trans rfl⟩
    | j + 1 => simp at hj⟩
theorem lst_two (w : World) (x y : Int) (t : TypeId) : Lst (w.alloc (.cells #[.int .i64 x, .int .i64 y] t)) (some ⟨w.heap.size, 0, none⟩) [x, y] :=
  ⟨fun j z hj => by
    match j with
    | 0 => simp at hj; subst hj; exact ⟨_, rfl, by simp, (World.cell?_alloc_at _ _ _ _ rfl).trans rfl⟩
    | 1 => simp at hj; subst hj; exact ⟨_, rfl, by simp, (World.cell?_alloc_at _ _ _ _ rfl).trans rfl⟩
    | j + 2 => simp at hj⟩
theorem compact_n (g cap n : Nat) (zs : List Int) (w : World) (hH : Holds (Value.int .i64) w g 0 zs.toArray) (hg : g < w.heap.size) (hn : zs.length = n) (hc : (Lib.compact zs).length ≤ 2) (h2 : n = 2 := by rfl) (hcap : n ≤ cap := by decide) :
    Calls Tryd.prog 47 #[.slice (some ⟨g, 0, none⟩) n cap] w fun e w' => e = .returned (.slice (some ⟨g, 0, none⟩) (Lib.compact zs).length cap) ∧ Lst w' (some ⟨g, 0, none⟩) (Lib.compact zs) ∧ w.grownBy w' (some g) := by
  subst hn
  exact compact_c g cap zs w hH hg (by omega) hcap (by omega)
theorem grown_below {w0 w w1 : World} {g : Nat} (h : Below w0.heap.size w0 w) (hg : w.grownBy w1 (some g)) (h0 : w0.heap.size ≤ g) : Below w0.heap.size w0 w1 :=
  h.grown hg h.size (fun j hj => by injection hj with hj; omega)
theorem gives_nil {l : List Int} {w0 w1 : World} (hl : l = []) (hb : Below w0.heap.size w0 w1) : GivesL l w0 (.returned (.slice none 0 0)) w1 := ⟨none, 0, by rw [hl]; rfl, by rw [hl]; exact Lst.empty _, hb⟩
theorem gives_one {l : List Int} {w0 w1 : World} {x : Int} (t : TypeId) (hl : l = [x]) (hb : Below w0.heap.size w0 w1) : GivesL l w0 (.returned (.slice (some ⟨w1.heap.size, 0, none⟩) 1 1)) (w1.alloc (.cells #[.int .i64 x] t)) := ⟨_, 1, by rw [hl]; rfl, by rw [hl]; exact lst_one _ _ _, bt hb (ba _ _)⟩
theorem gives_two {l : List Int} {w0 w1 : World} {x y : Int} (t : TypeId) (hl : l = [x, y]) (hb : Below w0.heap.size w0 w1) : GivesL l w0 (.returned (.slice (some ⟨w1.heap.size, 0, none⟩) 2 2)) (w1.alloc (.cells #[.int .i64 x, .int .i64 y] t)) := ⟨_, 2, by rw [hl]; rfl, by rw [hl]; exact lst_two _ _ _ _, bt hb (ba _ _)⟩
theorem gives_at {l l' : List Int} {sa : Option Addr} {cap : Nat} {w0 w1 : World} (hl : l = l') (L : Lst w1 sa l') (hb : Below w0.heap.size w0 w1) : GivesL l w0 (.returned (.slice sa l'.length cap)) w1 := ⟨sa, cap, by rw [hl], by rw [hl]; exact L, hb⟩
theorem next_c (op a b c m pc : Int) (hm : -32768 ≤ m ∧ m ≤ 32767) (w : World) : Calls Tryd.prog 25 #[code op a b c m, .int .i64 pc] w (GivesL (nxt op a b c m pc) w) := by
  by_cases hv : vld op a b c m = false ∨ pc < 0 ∨ 480 ≤ pc
  · have HN := Lib.hid (show nxt op a b c m pc = [] from by unfold nxt; rw [if_pos hv])
    have HV := Lib.hid hv
    clear hv
    go_enter Tryd.func25, Tryd.ntmps25
    go_wp2_with fail
    refine (valid_c op a b c m hm _).mono ?_
    rintro e w1 ⟨rfl, hb1⟩
    have k1 : Below w.heap.size w w1 := bt (ba w _) hb1
    clear hb1
    cases hq : vld op a b c m
    · go_wp2_with fail
      go_ret
      exact gives_nil HN.out k1
    · have hp : pc < 0 ∨ 480 ≤ pc := by have := HV.out; rw [hq] at this; simpa using this
      clear hq
      rcases hp with hp | hp
      · go_wp2_with fail
        go_ret
        exact gives_nil HN.out k1
      · have hp0 : ¬ pc < 0 := by omega
        go_wp2_with fail
        go_ret
        exact gives_nil HN.out k1
  · have hv1 : vld op a b c m = true := by
      cases h : vld op a b c m
      · simp [h] at hv
      · rfl
    have hpc : 0 ≤ pc ∧ pc < 480 := by omega
    have HN := Lib.hid (show nxt op a b c m pc = if op = 1 then [] else if op = 21 then [m] else if op = 22 then two (pc + 1) m else [pc + 1] from by unfold nxt; rw [if_neg hv])
    have HV := Lib.hid hv1
    obtain ⟨p0, p1⟩ := hpc
    obtain ⟨m0, m1⟩ := hm
    clear hv hv1
    go_enter Tryd.func25, Tryd.ntmps25
    go_wp2_with fail
    have C0 := Cod.new (w := w) op a b c m 24
    refine (valid_c op a b c m ⟨m0, m1⟩ _).mono ?_
    rintro e w1 ⟨rfl, hb1⟩
    rw [HV.out]
    have k1 : Below w.heap.size w w1 := bt (ba w _) hb1
    replace C0 := C0.next hb1
    clear hb1
    obtain ⟨lt, c0, c1, c2, c3, c4, f0, f1, f2, f3, f4⟩ := C0
    by_cases h1 : op = 1
    · have HN2 := Lib.hid (show nxt op a b c m pc = [] from by rw [HN.out, if_pos h1])
      go_wp2_with fail
      go_ret
      exact gives_nil HN2.out k1
    by_cases h2 : op = 21
    · have HN2 := Lib.hid (show nxt op a b c m pc = [m] from by rw [HN.out, if_neg h1, if_pos h2])
      go_wp2_with fail
      go_ret
      exact gives_one _ HN2.out k1
    by_cases h3 : op = 22
    · have HN2 := Lib.hid (show nxt op a b c m pc = two (pc + 1) m from by rw [HN.out, if_neg h1, if_neg h2, if_pos h3])
      go_wp2_with fail
      have k2 := bt k1 (ba w1 (.cells #[.int .i64 (pc + 1), .int .i64 m] 3))
      refine (sort_c w1.heap.size 2 [pc + 1, m] _ (holds_two _ _ _ _) (by simp) (by simp)).mono ?_
      rintro e w2 ⟨rfl, hH, hg⟩
      have k3 := grown_below k2 hg k1.size
      have hs2 : w1.heap.size < w2.heap.size := Nat.lt_of_lt_of_le (by simp) hg.size
      go_wp2_with fail
      refine (compact_n w1.heap.size 2 2 _ _ hH hs2 (by simp) (by rw [srt_two]; exact two_len _ _)).mono ?_
      rintro e w3 ⟨rfl, L3, hg3⟩
      rw [srt_two] at L3 ⊢
      have k4 := grown_below k3 hg3 k1.size
      go_wp2_with fail
      go_ret
      exact gives_at HN2.out L3 k4
    · have HN2 := Lib.hid (show nxt op a b c m pc = [pc + 1] from by rw [HN.out, if_neg h1, if_neg h2, if_neg h3])
      go_wp2_with fail
      go_ret
      exact gives_one _ HN2.out k1
theorem rnext_c (op a b c m pc : Int) (hm : -32768 ≤ m ∧ m ≤ 32767) (w : World) : Calls Tryd.prog 26 #[code op a b c m, .int .i64 pc] w (GivesL (nxt op a b c m pc) w) := by
  by_cases hv : vld op a b c m = false ∨ pc < 0 ∨ 480 ≤ pc
  · have HN := Lib.hid (show nxt op a b c m pc = [] from by unfold nxt; rw [if_pos hv])
    have HV := Lib.hid hv
    clear hv
    go_enter Tryd.func26, Tryd.ntmps26
    go_wp2_with fail
    refine (rvalid_c op a b c m hm _).mono ?_
    rintro e w1 ⟨rfl, hb1⟩
    have k1 : Below w.heap.size w w1 := bt (ba w _) hb1
    clear hb1
    cases hq : vld op a b c m
    · go_wp2_with fail
      go_ret
      exact gives_nil HN.out k1
    · have hp : pc < 0 ∨ 480 ≤ pc := by have := HV.out; rw [hq] at this; simpa using this
      clear hq
      rcases hp with hp | hp
      · go_wp2_with fail
        go_ret
        exact gives_nil HN.out k1
      · have hp0 : ¬ pc < 0 := by omega
        go_wp2_with fail
        go_ret
        exact gives_nil HN.out k1
  · have hv1 : vld op a b c m = true := by
      cases h : vld op a b c m
      · simp [h] at hv
      · rfl
    have hpc : 0 ≤ pc ∧ pc < 480 := by omega
    have HN := Lib.hid (show nxt op a b c m pc = if op = 1 then [] else if op = 21 then [m] else if op = 22 then two (pc + 1) m else [pc + 1] from by unfold nxt; rw [if_neg hv])
    have HV := Lib.hid hv1
    obtain ⟨p0, p1⟩ := hpc
    obtain ⟨m0, m1⟩ := hm
    clear hv hv1
    go_enter Tryd.func26, Tryd.ntmps26
    go_wp2_with fail
    have C0 := Cod.new (w := w) op a b c m 24
    refine (rvalid_c op a b c m ⟨m0, m1⟩ _).mono ?_
    rintro e w1 ⟨rfl, hb1⟩
    rw [HV.out]
    have k1 : Below w.heap.size w w1 := bt (ba w _) hb1
    replace C0 := C0.next hb1
    clear hb1
    obtain ⟨lt, c0, c1, c2, c3, c4, f0, f1, f2, f3, f4⟩ := C0
    by_cases h1 : op = 1
    · have HN2 := Lib.hid (show nxt op a b c m pc = [] from by rw [HN.out, if_pos h1])
      go_wp2_with fail
      go_ret
      exact gives_nil HN2.out k1
    have hq1 : (op == 1) = false := by simp [h1]
    have hq2 : decide (pc < 0) = false := by simp; omega
    have hq3 : decide (480 ≤ pc) = false := by simp; omega
    by_cases h2 : op = 21
    · have HN2 := Lib.hid (show nxt op a b c m pc = [m] from by rw [HN.out, if_neg h1, if_pos h2])
      go_wp2_with fail
      go_ret
      exact gives_one _ HN2.out k1
    by_cases h3 : op = 22
    · have HN2 := Lib.hid (show nxt op a b c m pc = two (pc + 1) m from by rw [HN.out, if_neg h1, if_neg h2, if_pos h3])
      by_cases h4 : m = pc + 1
      · have HN3 := Lib.hid (show nxt op a b c m pc = [pc + 1] from by rw [HN2.out]; unfold two; rw [if_neg (by omega), if_pos h4.symm])
        go_wp2_with fail
        go_ret
        exact gives_one _ HN3.out k1
      · by_cases h5 : m < pc + 1
        · have HN3 := Lib.hid (show nxt op a b c m pc = [m, pc + 1] from by rw [HN2.out]; unfold two; rw [if_neg (by omega), if_neg (by omega)])
          go_wp2_with fail
          go_ret
          exact gives_two _ HN3.out k1
        · have HN3 := Lib.hid (show nxt op a b c m pc = [pc + 1, m] from by rw [HN2.out]; unfold two; rw [if_pos (by omega)])
          go_wp2_with fail
          go_ret
          exact gives_two _ HN3.out k1
    · have HN2 := Lib.hid (show nxt op a b c m pc = [pc + 1] from by rw [HN.out, if_neg h1, if_neg h2, if_neg h3])
      go_wp2_with fail
      go_ret
      exact gives_one _ HN2.out k1
theorem nxt_len (op a b c m pc : Int) : (nxt op a b c m pc).length ≤ 10 := by
  have := two_len (pc + 1) m
  unfold nxt
  repeat' split
  all_goals first | (simp; done) | omega
theorem next_law (op a b c m pc : Int) (hm : -32768 ≤ m ∧ m ≤ 32767) (w : World) (hr : TabR w) : Calls Tryd.prog 7 #[code op a b c m, .int .i64 pc] w fun e w' => e = .returned (.bool true) ∧ Below w.heap.size w w' := by
  go_enter Tryd.func7, Tryd.ntmps7
  go_wp2_with fail
  have C0 := Cod.new (w := w) op a b c m 24
  refine (wakes_c _ (hr.below (ba w _))).mono ?_
  rintro e w1 ⟨rfl, hb1⟩
  have K : KC w w.heap.size op a b c m w1 := ⟨bt (ba w _) hb1, C0.next hb1⟩
  clear hb1 C0
  go_wp2_with fail
  have K1 := K.next w1.drewB
  go_region_held3 (fun w' => w'.cell? ⟨w.heap.size, 0, none⟩ = some (.int .i64 op) ∧ w'.cell? ⟨w.heap.size, 1, none⟩ = some (.int .i64 a) ∧ w'.cell? ⟨w.heap.size, 2, none⟩ = some (.int .i64 b) ∧ w'.cell? ⟨w.heap.size, 3, none⟩ = some (.int .i64 c) ∧ w'.cell? ⟨w.heap.size, 4, none⟩ = some (.int .i16 m) ∧ KC w w.heap.size op a b c m w')
    (first | exact ⟨K1.cod.c0, K1.cod.c1, K1.cod.c2, K1.cod.c3, K1.cod.c4, K1⟩ | exact ⟨K.cod.c0, K.cod.c1, K.cod.c2, K.cod.c3, K.cod.c4, K⟩ | go_keep)
    (first | (go_at_call 25; (with_reducible refine (next_c op a b c m pc hm _).mono ?_); rintro e w2 ⟨sa, ca, rfl, LA, hb2⟩; replace K1 := K1.next hb2; (try (replace LB := LB.next hb2))) | (go_at_call 26; (with_reducible refine (rnext_c op a b c m pc hm _).mono ?_); rintro e w2 ⟨sb, cb, rfl, LB, hb2⟩; replace K1 := K1.next hb2; (try (replace LA := LA.next hb2))) | (go_at_call 24; (with_reducible refine (same_yes _ (nxt_len op a b c m pc) _ _ _ _ _ LA LB).mono ?_); rintro e w2 ⟨rfl, hb2⟩; replace K1 := K1.next hb2))
  all_goals go_wp2_with fail
  all_goals go_ret
  all_goals exact ⟨rfl, K1.below⟩
end Go.Proofs.YtpgjmegecfaijaaDoor
