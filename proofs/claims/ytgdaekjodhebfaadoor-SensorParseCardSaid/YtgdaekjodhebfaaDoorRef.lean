/-
  The reference's functions on lists of changes: Valid, At, Next, Same.
-/
import Derived.Test.YtgdaekjodhebfaaDoorWords
import Derived.Test.YtgdaekjodhebfaaDoorLst
namespace Go.Proofs.YtgdaekjodhebfaaDoor
open Go.RowKit

/-- numbers of a change in their types -/
def Bnd (l : List (Int × Int)) : Prop := ∀ x ∈ l, (-9223372036854775808 ≤ x.1 ∧ x.1 ≤ 9223372036854775807) ∧ (-32768 ≤ x.2 ∧ x.2 ≤ 32767)
set_option maxRecDepth 100000 in
set_option maxHeartbeats 1000000 in
theorem rat_c (l : List (Int × Int)) (hl : l.length ≤ 1000) (t : Int) (A : Option Addr) (cap : Nat) (w : World) (C : Chs w A l) : Calls Tryd.prog 16 #[.slice A l.length cap, .int .i64 t] w fun e w' => e = .returned (.int .i16 (atL l t)) ∧ Below w.heap.size w w' := by
  have HC := Lib.hid C
  have hl3 : (l.length : Int) ≤ 1000 := by omega
  clear C
  go_enter Tryd.func16, Tryd.ntmps16
  go_wp2_with fail
  go_loopw [5, 10] (fun v i wr => ∃ k : Nat, k ≤ l.length ∧ i = .int .i64 k ∧ v = .int .i16 (atL (l.take k) t) ∧ Below w.heap.size w wr) (fun _ i _ => l.length - (intOf i).toNat)
  case atStart => exact ⟨0, by omega, rfl, rfl, Below.refl _ _⟩
  case round =>
    obtain ⟨k, hk, rfl, rfl, hbr⟩ := hrel
    have HB := Lib.hid hbr
    have hsz := hbr.size
    by_cases hlt : k < l.length
    · obtain ⟨ad, rfl, had, c0, c1⟩ := (HC.out.next hbr).at_ k _ (List.getElem?_eq_getElem hlt)
      rw [← add_of_add, add_one] at c1
      have HT := Lib.hid (atL_take hlt t)
      generalize l[k] = x at *
      generalize atL (l.take k) t = v at *
      obtain ⟨tx, vx⟩ := x
      clear hbr
      by_cases hx : tx ≤ t
      · have HX := Lib.hid hx
        go_wp2_with fail
        go_roundw
        case rel => exact ⟨k + 1, by omega, by go_num, by rw [HT.out, if_pos HX.out], HB.out.alloc (by omega) _⟩
        case measure => simp [intOf]; omega
      · have HX := Lib.hid hx
        go_wp2_with fail
        go_roundw
        case rel => exact ⟨k + 1, by omega, by go_num, by rw [HT.out, if_neg HX.out], HB.out.alloc (by omega) _⟩
        case measure => simp [intOf]; omega
    · obtain rfl : k = l.length := by omega
      rw [List.take_length]
      go_wp2_with fail
      go_ret
      exact ⟨rfl, hbr⟩
/-- a change as a value, and whether there is one -/
def optV (o : Option (Int × Int)) : Value := match o with
  | some x => .tuple #[.agg #[.int .i64 x.1, .int .i16 x.2], .bool true]
  | none => .tuple #[.agg #[.int .i64 0, .int .i16 0], .bool false]
theorem bdl {B : Nat} {w0 w : World} (h : Below B w0 w) (hB : B ≤ w.heap.size) (o : Obj) : Below B w0 (w.alloc o) := h.alloc hB o
set_option maxRecDepth 100000 in
set_option maxHeartbeats 1000000 in
theorem rnext_c (l : List (Int × Int)) (hl : l.length ≤ 1000) (t : Int) (A : Option Addr) (cap : Nat) (w : World) (C : Chs w A l) : Calls Tryd.prog 13 #[.slice A l.length cap, .int .i64 t] w fun e w' => e = .returned (optV (nextL l t)) ∧ Below w.heap.size w w' := by
  have HC := Lib.hid C
  have hl3 : (l.length : Int) ≤ 1000 := by omega
  clear C
  go_enter Tryd.func13, Tryd.ntmps13
  go_wp2_with fail
  go_loopw [10] (fun i wr => ∃ k : Nat, k ≤ l.length ∧ i = .int .i64 k ∧ nextL (l.take k) t = none ∧ Below w.heap.size w wr ∧ w.heap.size < wr.heap.size ∧ wr.cell? ⟨w.heap.size, 0, none⟩ = some (.int .i64 0) ∧ wr.cell? ⟨w.heap.size, 1, none⟩ = some (.int .i16 0) ∧ wr.frozen? ⟨w.heap.size, 0, none⟩ = false ∧ wr.frozen? ⟨w.heap.size, 1, none⟩ = false) (fun i _ => l.length - (intOf i).toNat)
  case atStart => exact ⟨0, by omega, rfl, rfl, ba _ _, by simp, (new_change w 0 0 32).1, (new_change w 0 0 32).2, World.frozen?_alloc_at _ _ _ _ rfl, World.frozen?_alloc_at _ _ _ _ rfl⟩
  case round =>
    obtain ⟨k, hk, rfl, hn, hbr, hlt0, r0, r1, f0, f1⟩ := hrel
    have HB := Lib.hid hbr
    have HN := Lib.hid hn
    have hsz := hbr.size
    clear hn
    by_cases hlt : k < l.length
    · obtain ⟨ad, rfl, had, c0, c1⟩ := (HC.out.next hbr).at_ k _ (List.getElem?_eq_getElem hlt)
      rw [← add_of_add, add_one] at c1
      obtain ⟨q1, q2⟩ := nextL_take hlt HN.out
      have HQ1 := Lib.hid q1
      have HQ2 := Lib.hid q2
      generalize l[k] = x at *
      obtain ⟨tx, vx⟩ := x
      clear hbr q1 q2
      by_cases hx : t < tx
      · have HX := Lib.hid (HQ1.out hx)
        go_wp2_with fail
        refine bodyPost_ret (v := .tuple #[.agg #[.int .i64 tx, .int .i16 vx], .bool true]) (by simp [results, Tryd.results13, go_sem, *]) rfl ⟨by rw [HX.out]; rfl, ?_⟩
        exact ((HB.out.setCell (by simp) _).setCell (by simp) _).alloc (by simp; omega) _
      · have HX := Lib.hid (HQ2.out hx)
        have n0 := (bcell (ba wr (.cells #[.int .i64 tx, .int .i16 vx] 32))).1 w.heap.size 0 hlt0
        have n1 := (bcell (ba wr (.cells #[.int .i64 tx, .int .i16 vx] 32))).1 w.heap.size 1 hlt0
        have m0 := (bcell (ba wr (.cells #[.int .i64 tx, .int .i16 vx] 32))).2 w.heap.size 0 hlt0
        have m1 := (bcell (ba wr (.cells #[.int .i64 tx, .int .i16 vx] 32))).2 w.heap.size 1 hlt0
        have HR := Lib.hid (And.intro (n0.trans r0) (And.intro (n1.trans r1) (And.intro (m0.trans f0) (m1.trans f1))))
        clear n0 n1 m0 m1
        go_wp2_with fail
        go_roundw
        case rel => exact ⟨k + 1, by omega, by go_num, HX.out, HB.out.alloc (by omega) _, by simp; omega, HR.out.1, HR.out.2.1, HR.out.2.2.1, HR.out.2.2.2⟩
        case measure => simp [intOf]; omega
    · obtain rfl : k = l.length := by omega
      have HX := Lib.hid (show nextL l t = none from by have := HN.out; rwa [List.take_length] at this)
      go_wp2_with fail
      refine bodyPost_ret (v := .tuple #[.agg #[.int .i64 0, .int .i16 0], .bool false]) (by simp [results, Tryd.results13, go_sem, *]) rfl ⟨by rw [HX.out]; rfl, ?_⟩
      repeat' first | exact HB.out | refine Below.setCell ?_ ?_ _ | (simp; done)
@[go_sem] theorem eq32 (a b c d : Int) (w : World) : (Op.equalIn 10000 32 (.agg #[.int .i64 a, .int .i16 b]) (.agg #[.int .i64 c, .int .i16 d])).run Tryd.prog w = .ok (a == c && b == d) w := by
  have u3 := Tryd.underlying2
  have a3 := Tryd.isAgg2
  have z3 := Tryd.sizeOf2
  have u22 := Tryd.underlying27
  have a22 := Tryd.isAgg27
  have z22 := Tryd.sizeOf27
  have hS : Tryd.prog.underlying 32 = some (.struct (Tryd.prog.fieldsOf 32)) := by kernel_rfl
  have hp : Tryd.prog.stoodInHeld 32 = false := by kernel_rfl
  rw [show (10000 : Nat) = 9999 + 1 from rfl, run_equalIn_agg w 9999 32 _ _ hS hp]
  simp only [Program.fieldsOf, Tryd.underlying32]
  go_simp
  by_cases h1 : a = c <;> by_cases h2 : b = d <;> simp [h1, h2]
@[go_sem] theorem eq29 (a b c d : Int) (w : World) : (Op.equalIn 10000 29 (.agg #[.int .i64 a, .int .i16 b]) (.agg #[.int .i64 c, .int .i16 d])).run Tryd.prog w = .ok (a == c && b == d) w := by
  have u3 := Tryd.underlying2
  have a3 := Tryd.isAgg2
  have z3 := Tryd.sizeOf2
  have u22 := Tryd.underlying27
  have a22 := Tryd.isAgg27
  have z22 := Tryd.sizeOf27
  have hS : Tryd.prog.underlying 29 = some (.struct (Tryd.prog.fieldsOf 29)) := by kernel_rfl
  have hp : Tryd.prog.stoodInHeld 29 = false := by kernel_rfl
  rw [show (10000 : Nat) = 9999 + 1 from rfl, run_equalIn_agg w 9999 29 _ _ hS hp]
  simp only [Program.fieldsOf, Tryd.underlying29]
  go_simp
  by_cases h1 : a = c <;> by_cases h2 : b = d <;> simp [h1, h2]
set_option maxRecDepth 100000 in
set_option maxHeartbeats 1000000 in
theorem rvalid_c (l : List (Int × Int)) (hl : l.length ≤ 1000) (A : Option Addr) (cap : Nat) (w : World) (C : Chs w A l) : Calls Tryd.prog 20 #[.slice A l.length cap] w fun e w' => e = .returned (.bool (validL l)) ∧ Below w.heap.size w w' := by
  have HC := Lib.hid C
  have hl3 : (l.length : Int) ≤ 1000 := by omega
  clear C
  go_enter Tryd.func20, Tryd.ntmps20
  go_wp2_with fail
  go_loopw [7] (fun i wr => ∃ k : Nat, k ≤ l.length ∧ i = .int .i64 k ∧ validL (l.take k) = true ∧ Below w.heap.size w wr) (fun i _ => l.length - (intOf i).toNat)
  case atStart => exact ⟨0, by omega, rfl, rfl, Below.refl _ _⟩
  case round =>
    obtain ⟨k, hk, rfl, hv, hbr⟩ := hrel
    have HB := Lib.hid hbr
    have HV := Lib.hid hv
    have hsz := hbr.size
    clear hv
    by_cases hlt : k < l.length
    · obtain ⟨ad, rfl, had, c0, c1⟩ := (HC.out.next hbr).at_ k _ (List.getElem?_eq_getElem hlt)
      rw [← add_of_add, add_one] at c1
      have HT := Lib.hid (validL_take hlt)
      have hkl : (k : Int) < (l.length : Int) := by omega
      have hpe : (k = 0 ∧ lastT (-1) (l.take k) = -1) ∨ (0 < k ∧ ∃ h : k - 1 < l.length, lastT (-1) (l.take k) = l[k - 1].1 ∧ 0 ≤ l[k - 1].1) := by
        by_cases h : k = 0
        · subst h; exact .inl ⟨rfl, rfl⟩
        · refine .inr ⟨by omega, by omega, ?_⟩
          have h1 : k - 1 < l.length := by omega
          have h2 := lastT_take h1 (-1)
          rw [show k - 1 + 1 = k from by omega] at h2
          refine ⟨h2, ?_⟩
          have h3 : (l.take k)[k - 1]'(by simp; omega) = l[k - 1] := by simp
          have := bound_at HV.out (i := k - 1) (by simp; omega)
          rw [h3] at this
          exact this.1
      have hprev : ∀ h : k - 1 < l.length, wr.cell? (ad.add ((k - 1) * 2)) = some (.int .i64 l[k - 1].1) := fun h => by
        obtain ⟨ad', e, -, p0, -⟩ := (HC.out.next hbr).at_ (k - 1) _ (List.getElem?_eq_getElem h)
        obtain rfl := Option.some.inj e
        exact p0
      generalize l[k] = x at *
      obtain ⟨tx, vx⟩ := x
      by_cases h0 : tx < 0
      · have d0 : decide (tx < 0) = true := by simpa using h0
        have HF := Lib.hid (show validL l = false from validL_false (k := k + 1) (by rw [HT.out, HV.out]; rcases hpe with ⟨-, e⟩ | ⟨-, h, e, e2⟩ <;> rw [e] <;> simp <;> omega))
        clear hbr h0 hpe hprev
        go_wp2_with fail
        go_quiet (fail)
        go_wp2_with fail
        go_ret
        exact ⟨ret_bool HF.out.symm, bdn (HB.out.alloc (by omega) _) _⟩
      · have d0 : decide (tx < 0) = false := by simpa using h0
        by_cases h1 : 1099511627776 < tx
        · have d1 : decide (1099511627776 < tx) = true := by simpa using h1
          have HF := Lib.hid (show validL l = false from validL_false (k := k + 1) (by rw [HT.out, HV.out]; rcases hpe with ⟨-, e⟩ | ⟨-, h, e, e2⟩ <;> rw [e] <;> simp <;> omega))
          clear hbr h0 h1 hpe hprev
          go_wp2_with fail
          go_quiet (fail)
          go_wp2_with fail
          go_ret
          exact ⟨ret_bool HF.out.symm, bdn (HB.out.alloc (by omega) _) _⟩
        · have d1 : decide (1099511627776 < tx) = false := by simpa using h1
          rcases hpe with ⟨hk0, e⟩ | ⟨hk0, h, e, e2⟩
          · have dk : decide ((0 : Int) < (k : Int)) = false := by rw [decide_eq_false_iff_not]; omega
            have dk2 : decide (0 < k) = false := by rw [decide_eq_false_iff_not]; omega
            have HF := Lib.hid (show validL (l.take (k + 1)) = true from by rw [HT.out, HV.out, e]; simp; omega)
            clear hbr h0 h1 hprev e hk0
            go_wp2_with fail
            go_quiet (fail)
            go_wp2_with fail
            go_roundw
            case rel => exact ⟨k + 1, by omega, by go_num, HF.out, bdn (HB.out.alloc (by omega) _) _⟩
            case measure => simp [intOf]; omega
          · have dk : decide ((0 : Int) < (k : Int)) = true := by rw [decide_eq_true_iff]; omega
            have dk2 : decide (0 < k) = true := by rw [decide_eq_true_iff]; omega
            have hk1 : (1 : Int) ≤ (k : Int) := by omega
            have hk2 : (0 : Int) ≤ (k : Int) - 1 := by omega
            have hk3 : (k : Int) - 1 < (l.length : Int) := by omega
            have hw1 : IntKind.i64.wrap ((k : Int) - 1) = (k : Int) - 1 := IntWalk.i64_in _ (by omega)
            have hk4 : ((k : Int) - 1).toNat = k - 1 := by omega
            have p0 := hprev h
            clear hprev
            generalize l[k - 1] = y at *
            obtain ⟨ty, vy⟩ := y
            have p1 : (wr.alloc (.cells #[.int .i64 tx, .int .i16 vx] 32)).cell? (ad.add ((k - 1) * 2)) = some (.int .i64 ty) := (World.cell?_alloc_lt _ _ _ (by rw [block_of_add]; exact had)).trans p0
            by_cases h2 : tx ≤ ty
            · have d2 : decide (tx ≤ ty) = true := by simpa using h2
              have HF := Lib.hid (show validL l = false from validL_false (k := k + 1) (by rw [HT.out, HV.out, e]; simp; omega))
              clear hbr h0 h1 h2 e
              go_wp2_with fail
              go_quiet (fail)
              go_wp2_with fail
              go_ret
              exact ⟨ret_bool HF.out.symm, bdn (HB.out.alloc (by omega) _) _⟩
            · have d2 : decide (tx ≤ ty) = false := by simpa using h2
              have HF := Lib.hid (show validL (l.take (k + 1)) = true from by rw [HT.out, HV.out, e]; simp; omega)
              clear hbr h0 h1 h2 e
              go_wp2_with fail
              go_quiet (fail)
              go_wp2_with fail
              go_roundw
              case rel => exact ⟨k + 1, by omega, by go_num, HF.out, bdn (HB.out.alloc (by omega) _) _⟩
              case measure => simp [intOf]; omega
    · obtain rfl : k = l.length := by omega
      have HX := Lib.hid (show validL l = true from by have := HV.out; rwa [List.take_length] at this)
      go_wp2_with fail
      go_ret
      exact ⟨ret_bool HX.out.symm, hbr⟩
set_option maxRecDepth 100000 in
theorem same_c (l : List (Int × Int)) (hl : l.length ≤ 1000) (A B : Option Addr) (ca cb : Nat) (w : World) (CA : Chs w A l) (CB : Chs w B l) : Calls Tryd.prog 18 #[.slice A l.length ca, .slice B l.length cb] w fun e w' => e = .returned (.bool true) ∧ Below w.heap.size w w' := by
  have HA := Lib.hid CA
  have HB := Lib.hid CB
  have hl3 : (l.length : Int) ≤ 1000 := by omega
  clear CA CB
  go_enter Tryd.func18, Tryd.ntmps18
  go_wp2_with fail
  go_loopw [13] (fun i wr => ∃ k : Nat, k ≤ l.length ∧ i = .int .i64 k ∧ Below w.heap.size w wr) (fun i _ => l.length - (intOf i).toNat)
  case atStart => exact ⟨0, by omega, rfl, Below.refl _ _⟩
  case round =>
    obtain ⟨k, hk, rfl, hbr⟩ := hrel
    by_cases hlt : k < l.length
    · obtain ⟨ad, rfl, had, c0, c1⟩ := (HA.out.next hbr).at_ k _ (List.getElem?_eq_getElem hlt)
      obtain ⟨bd, rfl, hbd, d0, d1⟩ := (HB.out.next hbr).at_ k _ (List.getElem?_eq_getElem hlt)
      rw [← add_of_add, add_one] at c1 d1
      generalize l[k] = x at *
      obtain ⟨tx, vx⟩ := x
      have hk0 : (0 : Int) ≤ (k : Int) := by omega
      have hk1 : (k : Int) < (l.length : Int) := by omega
      have HBR := Lib.hid hbr
      clear hbr
      go_wp2_with fail
      go_quiet (fail)
      go_wp2_with fail
      go_roundw
      case rel => exact ⟨k + 1, by omega, by go_num, bdn HBR.out _⟩
      case measure => simp [intOf]; omega
    · go_wp2_with fail
      go_ret
      exact ⟨rfl, hbr⟩
end Go.Proofs.YtgdaekjodhebfaaDoor
