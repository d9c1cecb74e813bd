/-
  trickleref11.Format: the text of an instruction.
-/
import Derived.Test.YtpgjmegecfaijaaDoorNum
import Derived.Test.YtpgjmegecfaijaaDoorLaws
namespace Go.Proofs.YtpgjmegecfaijaaDoor
open Go.RowKit

/-- the text after k operands -/
def fpart (a b c m : Int) (s : ByteArray) (k : Nat) (o : Int) : ByteArray :=
  if o = 3 then (s ++ (if k = 0 then ⟨#[32]⟩ else ⟨#[44, 32]⟩)) ++ ⟨(Lib.itoa m).toArray⟩ else ((s ++ (if k = 0 then ⟨#[32]⟩ else ⟨#[44, 32]⟩)) ++ ⟨#[114]⟩) ++ ⟨(Lib.itoa (fieldOf a b c m o)).toArray⟩
def facc (nm : ByteArray) (l : List Int) (a b c m : Int) : Nat → ByteArray
  | 0 => nm
  | k + 1 => fpart a b c m (facc nm l a b c m k) k (l.getD k 0)
theorem facc_succ (nm : ByteArray) (l : List Int) (a b c m : Int) (k : Nat) : facc nm l a b c m (k + 1) = fpart a b c m (facc nm l a b c m k) k (l.getD k 0) := rfl
theorem bytes_ext {x y : ByteArray} (h : x.data.toList = y.data.toList) : x = y := by
  apply ByteArray.ext
  exact Array.toList_inj.1 h
theorem fpart_list (a b c m : Int) (s : ByteArray) (k : Nat) (o : Int) : (fpart a b c m s k o).data.toList = s.data.toList ++ ((if k = 0 then [32] else [44, 32]) ++ (opT a b c m o).data.toList) := by
  unfold fpart opT
  by_cases h3 : o = 3 <;> by_cases hk : k = 0 <;> simp [h3, hk, fieldOf]
theorem facc_fmt (op a b c m : Int) : facc (nam op.toNat) (shp op.toNat) a b c m (shp op.toNat).length = fmtS op a b c m := by
  have hl := shp_len op.toNat
  unfold fmtS fmtJ opTs
  generalize shp op.toNat = l at *
  match l, hl with
  | [], _ => rfl
  | [x], _ =>
    apply bytes_ext
    simp [facc, fpart_list, Lib.join_cons, Lib.joinTail]
  | [x, y], _ =>
    apply bytes_ext
    simp [facc, fpart_list, Lib.join_cons, Lib.joinTail]
  | [x, y, z], _ =>
    apply bytes_ext
    simp [facc, fpart_list, Lib.join_cons, Lib.joinTail]
theorem facc_size (nm : ByteArray) (l : List Int) (a b c m : Int) (hn : nm.size ≤ 6) (hm : -32768 ≤ m ∧ m ≤ 32767) (ha : 0 ≤ a ∧ a < 8) (hb : 0 ≤ b ∧ b < 8) (hc : 0 ≤ c ∧ c < 8) : ∀ k, (facc nm l a b c m k).size ≤ 6 + k * 30
  | 0 => by simpa [facc] using hn
  | k + 1 => by
    have ih := facc_size nm l a b c m hn hm ha hb hc k
    have h1 := Lib.itoa_length_le m (by omega) (by omega)
    have h2 := Lib.itoa_length_le a (by omega) (by omega)
    have h3 := Lib.itoa_length_le b (by omega) (by omega)
    have h4 := Lib.itoa_length_le c (by omega) (by omega)
    have e : (facc nm l a b c m (k + 1)).size = (facc nm l a b c m (k + 1)).data.toList.length := by simp
    rw [e, facc_succ, fpart_list, List.length_append, List.length_append]
    have e2 : (facc nm l a b c m k).data.toList.length = (facc nm l a b c m k).size := by simp
    rw [e2]
    have h5 : ((if k = 0 then [32] else [44, 32] : List UInt8)).length ≤ 2 := by split <;> simp
    have h6 : (opT a b c m (l.getD k 0)).data.toList.length ≤ 22 := by
      unfold opT fieldOf
      repeat' split
      all_goals simp <;> omega
    omega
theorem shs_at (l : List Int) (k : Nat) (h : k < l.length) : ∃ h2 : k < (shs l).size, (shs l)[k] = shc l[k] := by
  have h2 : k < (shs l).size := by simpa [shs, ByteArray.size] using h
  refine ⟨h2, ?_⟩
  have e : (shs l)[k] = (shs l).data.toList[k]'(by simpa using h2) := rfl
  rw [e]
  simp [shs]
theorem shs_len (l : List Int) : (shs l).size = l.length := by simp [shs, ByteArray.size]

theorem sum_le {x y : ByteArray} (hx : x.size ≤ 1000) (hy : y.size ≤ 1000) (W : World) : (Op.stringOp .add x y).run Tryd.prog W = .ok (.string (x ++ y)) W := run_string_add_sum W x y (by omega)
theorem app_le {x y : ByteArray} {n m : Nat} (hx : x.size ≤ n) (hy : y.size ≤ m) (h : n + m ≤ 1000) : (x ++ y).size ≤ 1000 := by rw [ByteArray.size_append]; omega
set_option maxRecDepth 100000 in
set_option maxHeartbeats 4000000 in
theorem rfmt_yes (op a b c m : Int) (hm : -32768 ≤ m ∧ m ≤ 32767) (hv : vld op a b c m = true) (w : World) : Calls Tryd.prog 32 #[code op a b c m] w fun e w' => e = .returned (.string (fmtS op a b c m)) ∧ Below w.heap.size w w' := by
  have HV := Lib.hid hv
  obtain ⟨⟨o0, o1⟩, ⟨a0, a1⟩, ⟨b0, b1⟩, c0, c1⟩ := vld_bounds hv
  have HF := Lib.hid (facc_fmt op a b c m)
  have HS := Lib.hid (facc_size (nam op.toNat) (shp op.toNat) a b c m (nam_len op.toNat) hm ⟨a0, a1⟩ ⟨b0, b1⟩ ⟨c0, c1⟩)
  clear hv
  go_enter Tryd.func32, Tryd.ntmps32
  go_wp2_with fail
  have C0 := Cod.new (w := w) op a b c m 24
  refine (rvalid_c op a b c m hm _).mono ?_
  rintro e w1 ⟨rfl, hb1⟩
  rw [HV.out]
  have K : KC w w.heap.size op a b c m w1 := ⟨bt (ba w _) hb1, C0.next hb1⟩
  clear hb1 C0
  obtain ⟨-, ⟨lt, c0', c1', c2', c3', c4', f0, f1, f2, f3, f4⟩⟩ := id K
  go_wp2_with fail
  refine (mnem_c op _).mono ?_
  rintro e w2 ⟨rfl, hb2⟩
  replace K := K.next hb2
  clear hb2 lt c0' c1' c2' c3' c4' f0 f1 f2 f3 f4
  obtain ⟨-, ⟨lt, c0', c1', c2', c3', c4', f0, f1, f2, f3, f4⟩⟩ := id K
  go_wp2_with fail
  refine (shape_c op _).mono ?_
  rintro e w3 ⟨rfl, hw⟩
  obtain rfl := hw.symm
  clear hw lt c0' c1' c2' c3' c4' f0 f1 f2 f3 f4
  have hl3 := shp_len op.toNat
  have hsz := shs_len (shp op.toNat)
  have HZ := Lib.hid hsz
  have HA := Lib.hid (shs_at (shp op.toNat))
  have HI := Lib.hid (shp_in op.toNat)
  generalize hshs : shs (shp op.toNat) = t at *
  have hts : t.size ≤ 3 := by omega
  have hts' : (t.size : Int) ≤ 3 := by omega
  clear hshs hsz
  go_wp2_with fail
  go_loopw [3, 5] (fun s i wr => ∃ k : Nat, k ≤ t.size ∧ i = .int .i64 k ∧ s = .string (facc (nam op.toNat) (shp op.toNat) a b c m k) ∧ KC w w.heap.size op a b c m wr) (fun _ i _ => t.size - (intOf i).toNat)
  case atStart => exact ⟨0, by omega, rfl, rfl, K⟩
  case round =>
    obtain ⟨k, hk, rfl, rfl, K1⟩ := hrel
    by_cases hlt : k < t.size
    · have hkl : k < (shp op.toNat).length := by rw [← HZ.out]; exact hlt
      obtain ⟨h2, hc⟩ := HA.out k hkl
      have hin := HI.out _ (List.getElem_mem hkl)
      have HG := Lib.hid (show (shp op.toNat).getD k 0 = (shp op.toNat)[k] from by simp [hkl])
      have hk3 : (k : Int) < 3 := by omega
      have fs := HS.out k
      generalize hx : (shp op.toNat)[k] = x at *
      clear hx
      obtain ⟨-, ⟨lt, c0', c1', c2', c3', c4', f0, f1, f2, f3, f4⟩⟩ := id K1
      have h4 : (fpart a b c m (facc (nam op.toNat) (shp op.toNat) a b c m k) k x) = facc (nam op.toNat) (shp op.toNat) a b c m (k + 1) := by rw [facc_succ, HG.out]
      have H4 := Lib.hid h4
      clear h4
      generalize facc (nam op.toNat) (shp op.toNat) a b c m k = s at *
      rcases hin with hxx | hxx | hxx | hxx
      · subst hxx
        have hq97 : ((t[k].toNat : Int) == 97) = true := by rw [hc]; rfl
        clear hc
        have ln : (⟨(Lib.itoa a).toArray⟩ : ByteArray).size ≤ 21 := by have := Lib.itoa_length_le a (by omega) (by omega); simpa [ByteArray.size] using this
        by_cases hk0 : k = 0
        · subst hk0
          have s1 : (s ++ ⟨#[32]⟩).size ≤ 1000 := app_le (n := 500) (m := 2) (by omega) (by decide) (by omega)
          have su1 := sum_le (x := s) (y := ⟨#[32]⟩) (by omega) (by decide)
          have su2 := sum_le (x := s ++ ⟨#[32]⟩) (y := ⟨#[114]⟩) s1 (by decide)
          have s2 : ((s ++ ⟨#[32]⟩) ++ ⟨#[114]⟩).size ≤ 1000 := by rw [ByteArray.size_append, ByteArray.size_append]; have e1 : (⟨#[32]⟩ : ByteArray).size = 1 := rfl; have e2 : (⟨#[114]⟩ : ByteArray).size = 1 := rfl; omega
          have su3 := sum_le (x := (s ++ ⟨#[32]⟩) ++ ⟨#[114]⟩) (y := ⟨(Lib.itoa a).toArray⟩) s2 (by omega)
          have H5 := Lib.hid (show ((s ++ ⟨#[32]⟩) ++ ⟨#[114]⟩) ++ ⟨(Lib.itoa a).toArray⟩ = facc (nam op.toNat) (shp op.toNat) a b c m (0 + 1) from by rw [← H4.out]; unfold fpart; rw [if_neg (by decide), if_pos rfl]; rfl)
          clear s1 s2 ln fs
          go_wp2_with fail
          refine (num_c a (by omega) (by omega) _).mono ?_
          rintro e w4 ⟨rfl, hb4⟩
          replace K1 := K1.next hb4
          go_wp2_with fail
          go_roundw
          case rel => exact ⟨0 + 1, by omega, by go_num, by rw [H5.out], K1⟩
          case measure => simp [intOf]; omega
        · have hkz : ((k : Int) == 0) = false := by rw [beq_eq_false_iff_ne]; omega
          have s1 : (s ++ ⟨#[44, 32]⟩).size ≤ 1000 := app_le (n := 500) (m := 2) (by omega) (by decide) (by omega)
          have su1 := sum_le (x := s) (y := ⟨#[44, 32]⟩) (by omega) (by decide)
          have su2 := sum_le (x := s ++ ⟨#[44, 32]⟩) (y := ⟨#[114]⟩) s1 (by decide)
          have s2 : ((s ++ ⟨#[44, 32]⟩) ++ ⟨#[114]⟩).size ≤ 1000 := by rw [ByteArray.size_append, ByteArray.size_append]; have e1 : (⟨#[44, 32]⟩ : ByteArray).size = 2 := rfl; have e2 : (⟨#[114]⟩ : ByteArray).size = 1 := rfl; omega
          have su3 := sum_le (x := (s ++ ⟨#[44, 32]⟩) ++ ⟨#[114]⟩) (y := ⟨(Lib.itoa a).toArray⟩) s2 (by omega)
          have H5 := Lib.hid (show ((s ++ ⟨#[44, 32]⟩) ++ ⟨#[114]⟩) ++ ⟨(Lib.itoa a).toArray⟩ = facc (nam op.toNat) (shp op.toNat) a b c m (k + 1) from by rw [← H4.out]; unfold fpart; rw [if_neg (by decide), if_neg hk0]; rfl)
          clear s1 s2 ln fs
          go_wp2_with fail
          refine (num_c a (by omega) (by omega) _).mono ?_
          rintro e w4 ⟨rfl, hb4⟩
          replace K1 := K1.next hb4
          go_wp2_with fail
          go_roundw
          case rel => exact ⟨k + 1, by omega, by go_num, by rw [H5.out], K1⟩
          case measure => simp [intOf]; omega
      · subst hxx
        have hq97 : ((t[k].toNat : Int) == 97) = false := by rw [hc]; rfl
        have hq98 : ((t[k].toNat : Int) == 98) = true := by rw [hc]; rfl
        clear hc
        have ln : (⟨(Lib.itoa b).toArray⟩ : ByteArray).size ≤ 21 := by have := Lib.itoa_length_le b (by omega) (by omega); simpa [ByteArray.size] using this
        by_cases hk0 : k = 0
        · subst hk0
          have s1 : (s ++ ⟨#[32]⟩).size ≤ 1000 := app_le (n := 500) (m := 2) (by omega) (by decide) (by omega)
          have su1 := sum_le (x := s) (y := ⟨#[32]⟩) (by omega) (by decide)
          have su2 := sum_le (x := s ++ ⟨#[32]⟩) (y := ⟨#[114]⟩) s1 (by decide)
          have s2 : ((s ++ ⟨#[32]⟩) ++ ⟨#[114]⟩).size ≤ 1000 := by rw [ByteArray.size_append, ByteArray.size_append]; have e1 : (⟨#[32]⟩ : ByteArray).size = 1 := rfl; have e2 : (⟨#[114]⟩ : ByteArray).size = 1 := rfl; omega
          have su3 := sum_le (x := (s ++ ⟨#[32]⟩) ++ ⟨#[114]⟩) (y := ⟨(Lib.itoa b).toArray⟩) s2 (by omega)
          have H5 := Lib.hid (show ((s ++ ⟨#[32]⟩) ++ ⟨#[114]⟩) ++ ⟨(Lib.itoa b).toArray⟩ = facc (nam op.toNat) (shp op.toNat) a b c m (0 + 1) from by rw [← H4.out]; unfold fpart; rw [if_neg (by decide), if_pos rfl]; rfl)
          clear s1 s2 ln fs
          go_wp2_with fail
          refine (num_c b (by omega) (by omega) _).mono ?_
          rintro e w4 ⟨rfl, hb4⟩
          replace K1 := K1.next hb4
          go_wp2_with fail
          go_roundw
          case rel => exact ⟨0 + 1, by omega, by go_num, by rw [H5.out], K1⟩
          case measure => simp [intOf]; omega
        · have hkz : ((k : Int) == 0) = false := by rw [beq_eq_false_iff_ne]; omega
          have s1 : (s ++ ⟨#[44, 32]⟩).size ≤ 1000 := app_le (n := 500) (m := 2) (by omega) (by decide) (by omega)
          have su1 := sum_le (x := s) (y := ⟨#[44, 32]⟩) (by omega) (by decide)
          have su2 := sum_le (x := s ++ ⟨#[44, 32]⟩) (y := ⟨#[114]⟩) s1 (by decide)
          have s2 : ((s ++ ⟨#[44, 32]⟩) ++ ⟨#[114]⟩).size ≤ 1000 := by rw [ByteArray.size_append, ByteArray.size_append]; have e1 : (⟨#[44, 32]⟩ : ByteArray).size = 2 := rfl; have e2 : (⟨#[114]⟩ : ByteArray).size = 1 := rfl; omega
          have su3 := sum_le (x := (s ++ ⟨#[44, 32]⟩) ++ ⟨#[114]⟩) (y := ⟨(Lib.itoa b).toArray⟩) s2 (by omega)
          have H5 := Lib.hid (show ((s ++ ⟨#[44, 32]⟩) ++ ⟨#[114]⟩) ++ ⟨(Lib.itoa b).toArray⟩ = facc (nam op.toNat) (shp op.toNat) a b c m (k + 1) from by rw [← H4.out]; unfold fpart; rw [if_neg (by decide), if_neg hk0]; rfl)
          clear s1 s2 ln fs
          go_wp2_with fail
          refine (num_c b (by omega) (by omega) _).mono ?_
          rintro e w4 ⟨rfl, hb4⟩
          replace K1 := K1.next hb4
          go_wp2_with fail
          go_roundw
          case rel => exact ⟨k + 1, by omega, by go_num, by rw [H5.out], K1⟩
          case measure => simp [intOf]; omega
      · subst hxx
        have hq97 : ((t[k].toNat : Int) == 97) = false := by rw [hc]; rfl
        have hq98 : ((t[k].toNat : Int) == 98) = false := by rw [hc]; rfl
        have hq99 : ((t[k].toNat : Int) == 99) = true := by rw [hc]; rfl
        clear hc
        have ln : (⟨(Lib.itoa c).toArray⟩ : ByteArray).size ≤ 21 := by have := Lib.itoa_length_le c (by omega) (by omega); simpa [ByteArray.size] using this
        by_cases hk0 : k = 0
        · subst hk0
          have s1 : (s ++ ⟨#[32]⟩).size ≤ 1000 := app_le (n := 500) (m := 2) (by omega) (by decide) (by omega)
          have su1 := sum_le (x := s) (y := ⟨#[32]⟩) (by omega) (by decide)
          have su2 := sum_le (x := s ++ ⟨#[32]⟩) (y := ⟨#[114]⟩) s1 (by decide)
          have s2 : ((s ++ ⟨#[32]⟩) ++ ⟨#[114]⟩).size ≤ 1000 := by rw [ByteArray.size_append, ByteArray.size_append]; have e1 : (⟨#[32]⟩ : ByteArray).size = 1 := rfl; have e2 : (⟨#[114]⟩ : ByteArray).size = 1 := rfl; omega
          have su3 := sum_le (x := (s ++ ⟨#[32]⟩) ++ ⟨#[114]⟩) (y := ⟨(Lib.itoa c).toArray⟩) s2 (by omega)
          have H5 := Lib.hid (show ((s ++ ⟨#[32]⟩) ++ ⟨#[114]⟩) ++ ⟨(Lib.itoa c).toArray⟩ = facc (nam op.toNat) (shp op.toNat) a b c m (0 + 1) from by rw [← H4.out]; unfold fpart; rw [if_neg (by decide), if_pos rfl]; rfl)
          clear s1 s2 ln fs
          go_wp2_with fail
          refine (num_c c (by omega) (by omega) _).mono ?_
          rintro e w4 ⟨rfl, hb4⟩
          replace K1 := K1.next hb4
          go_wp2_with fail
          go_roundw
          case rel => exact ⟨0 + 1, by omega, by go_num, by rw [H5.out], K1⟩
          case measure => simp [intOf]; omega
        · have hkz : ((k : Int) == 0) = false := by rw [beq_eq_false_iff_ne]; omega
          have s1 : (s ++ ⟨#[44, 32]⟩).size ≤ 1000 := app_le (n := 500) (m := 2) (by omega) (by decide) (by omega)
          have su1 := sum_le (x := s) (y := ⟨#[44, 32]⟩) (by omega) (by decide)
          have su2 := sum_le (x := s ++ ⟨#[44, 32]⟩) (y := ⟨#[114]⟩) s1 (by decide)
          have s2 : ((s ++ ⟨#[44, 32]⟩) ++ ⟨#[114]⟩).size ≤ 1000 := by rw [ByteArray.size_append, ByteArray.size_append]; have e1 : (⟨#[44, 32]⟩ : ByteArray).size = 2 := rfl; have e2 : (⟨#[114]⟩ : ByteArray).size = 1 := rfl; omega
          have su3 := sum_le (x := (s ++ ⟨#[44, 32]⟩) ++ ⟨#[114]⟩) (y := ⟨(Lib.itoa c).toArray⟩) s2 (by omega)
          have H5 := Lib.hid (show ((s ++ ⟨#[44, 32]⟩) ++ ⟨#[114]⟩) ++ ⟨(Lib.itoa c).toArray⟩ = facc (nam op.toNat) (shp op.toNat) a b c m (k + 1) from by rw [← H4.out]; unfold fpart; rw [if_neg (by decide), if_neg hk0]; rfl)
          clear s1 s2 ln fs
          go_wp2_with fail
          refine (num_c c (by omega) (by omega) _).mono ?_
          rintro e w4 ⟨rfl, hb4⟩
          replace K1 := K1.next hb4
          go_wp2_with fail
          go_roundw
          case rel => exact ⟨k + 1, by omega, by go_num, by rw [H5.out], K1⟩
          case measure => simp [intOf]; omega
      · subst hxx
        have hq97 : ((t[k].toNat : Int) == 97) = false := by rw [hc]; rfl
        have hq98 : ((t[k].toNat : Int) == 98) = false := by rw [hc]; rfl
        have hq99 : ((t[k].toNat : Int) == 99) = false := by rw [hc]; rfl
        clear hc
        have ln : (⟨(Lib.itoa m).toArray⟩ : ByteArray).size ≤ 21 := by have := Lib.itoa_length_le m (by omega) (by omega); simpa [ByteArray.size] using this
        by_cases hk0 : k = 0
        · subst hk0
          have s1 : (s ++ ⟨#[32]⟩).size ≤ 1000 := app_le (n := 500) (m := 2) (by omega) (by decide) (by omega)
          have su1 := sum_le (x := s) (y := ⟨#[32]⟩) (by omega) (by decide)
          have su3 := sum_le (x := s ++ ⟨#[32]⟩) (y := ⟨(Lib.itoa m).toArray⟩) s1 (by omega)
          have H5 := Lib.hid (show (s ++ ⟨#[32]⟩) ++ ⟨(Lib.itoa m).toArray⟩ = facc (nam op.toNat) (shp op.toNat) a b c m (0 + 1) from by rw [← H4.out]; unfold fpart; rw [if_pos rfl, if_pos rfl])
          clear s1 ln fs
          go_wp2_with fail
          refine (num_c m (by omega) (by omega) _).mono ?_
          rintro e w4 ⟨rfl, hb4⟩
          replace K1 := K1.next hb4
          go_wp2_with fail
          go_roundw
          case rel => exact ⟨0 + 1, by omega, by go_num, by rw [H5.out], K1⟩
          case measure => simp [intOf]; omega
        · have hkz : ((k : Int) == 0) = false := by rw [beq_eq_false_iff_ne]; omega
          have s1 : (s ++ ⟨#[44, 32]⟩).size ≤ 1000 := app_le (n := 500) (m := 2) (by omega) (by decide) (by omega)
          have su1 := sum_le (x := s) (y := ⟨#[44, 32]⟩) (by omega) (by decide)
          have su3 := sum_le (x := s ++ ⟨#[44, 32]⟩) (y := ⟨(Lib.itoa m).toArray⟩) s1 (by omega)
          have H5 := Lib.hid (show (s ++ ⟨#[44, 32]⟩) ++ ⟨(Lib.itoa m).toArray⟩ = facc (nam op.toNat) (shp op.toNat) a b c m (k + 1) from by rw [← H4.out]; unfold fpart; rw [if_pos rfl, if_neg hk0])
          clear s1 ln fs
          go_wp2_with fail
          refine (num_c m (by omega) (by omega) _).mono ?_
          rintro e w4 ⟨rfl, hb4⟩
          replace K1 := K1.next hb4
          go_wp2_with fail
          go_roundw
          case rel => exact ⟨k + 1, by omega, by go_num, by rw [H5.out], K1⟩
          case measure => simp [intOf]; omega
    · obtain rfl : k = t.size := by omega
      go_wp2_with fail
      go_ret
      exact ⟨ret_str (by rw [← HF.out, ← HZ.out]), K1.below⟩
theorem rfmt_no (op a b c m : Int) (hm : -32768 ≤ m ∧ m ≤ 32767) (hv : vld op a b c m = false) (w : World) : Calls Tryd.prog 32 #[code op a b c m] w fun e w' => e = .returned (.string ⟨#[]⟩) ∧ Below w.heap.size w w' := by
  have HV := Lib.hid hv
  clear hv
  go_enter Tryd.func32, Tryd.ntmps32
  go_wp2_with fail
  refine (rvalid_c op a b c m hm _).mono ?_
  rintro e w1 ⟨rfl, hb1⟩
  rw [HV.out]
  have k1 : Below w.heap.size w w1 := bt (ba w _) hb1
  go_wp2_with fail
  go_ret
  exact ⟨rfl, k1⟩
end Go.Proofs.YtpgjmegecfaijaaDoor
