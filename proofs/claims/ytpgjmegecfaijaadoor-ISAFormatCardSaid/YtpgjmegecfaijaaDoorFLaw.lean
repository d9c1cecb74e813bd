/-
  The walks of ISAFormat and ISAParse.
-/
import Derived.Test.YtpgjmegecfaijaaDoorRParse
import Derived.Shelf.LaysM
namespace Go.Proofs.YtpgjmegecfaijaaDoor
open Go.RowKit

theorem mx_of (W : World) (h : W.ShapedOpen Tryd.prog) : ∃ m, W.cell? ⟨0, 0, none⟩ = some (.int .i64 m) :=
  Go.Proofs.cell_of_shapedOpen_int (zero := #[.int .i64 0]) (t := 3) h (of_decide_eq_true (by kernel_rfl)) (by kernel_rfl) rfl (by kernel_rfl) (by kernel_rfl) Tryd.underlying3
theorem kept_same {l : List Int} {o x y : Int} (h : (o ∈ l) → x = y) : kept l o x = kept l o y := by
  unfold kept
  split
  · exact h (by assumption)
  · rfl
theorem txt_inj {s : ByteArray} {op a b c m op' a' b' c' m' : Int} (hm : -32768 ≤ m ∧ m ≤ 32767) (hm' : -32768 ≤ m' ∧ m' ≤ 32767) (h : Txt s op a b c m) (h' : Txt s op' a' b' c' m') : op = op' ∧ a = a' ∧ b = b' ∧ c = c' ∧ m = m' := by
  obtain ⟨ho, ha, hb, hc⟩ := vld_bounds h.1
  obtain ⟨ho', ha', hb', hc'⟩ := vld_bounds h'.1
  have e0 : op = op' := nam_inj ho ⟨by omega, ho'.2⟩ (by
    have e1 := (txt_cut h).1
    rw [(txt_cut h').1] at e1
    exact (bytes_ext e1).symm)
  subst e0
  have key : ∀ o, o ∈ shp op.toNat → fieldOf a b c m o = fieldOf a' b' c' m' o := by
    intro o hol
    have hne : shp op.toNat ≠ [] := by intro e; rw [e] at hol; simp at hol
    have e1 := txt_pieces h hne
    rw [txt_pieces h' hne] at e1
    unfold opTs at e1
    have e2 := List.map_inj_left.1 e1 o hol
    have hin := shp_in op.toNat o hol
    rw [← valN_opT hin hm ha hb hc, ← valN_opT hin hm' ha' hb' hc', e2]
  have hv := h.1
  have hv' := h'.1
  unfold vld at hv hv'
  simp only [Bool.and_eq_true, beq_iff_eq] at hv hv'
  refine ⟨rfl, ?_, ?_, ?_, ?_⟩
  · rw [← hv.2.2.1, ← hv'.2.2.1]; exact kept_same (fun hi => by simpa [fieldOf] using key 0 hi)
  · rw [← hv.2.2.2.1, ← hv'.2.2.2.1]; exact kept_same (fun hi => by simpa [fieldOf] using key 1 hi)
  · rw [← hv.2.2.2.2.1, ← hv'.2.2.2.2.1]; exact kept_same (fun hi => by simpa [fieldOf] using key 2 hi)
  · rw [← hv.2.2.2.2.2, ← hv'.2.2.2.2.2]; exact kept_same (fun hi => by simpa [fieldOf] using key 3 hi)
/-- Parse at a text of a valid instruction -/
theorem parse_yes {s : ByteArray} {op a b c m : Int} (hm : -32768 ≤ m ∧ m ≤ 32767) (h : Txt s op a b c m) (w : World) (hr : Ready w) : Calls Tryd.prog 33 #[.string s] w fun e w' => e = .returned (.tuple #[code op a b c m, .int .i64 0]) ∧ Below w.heap.size w w' := by
  refine (parse_c s (Nat.le_trans (txt_bound hm h) (by decide)) w hr).mono ?_
  rintro e w' ⟨⟨op', a', b', c', m', m0, m1, h', rfl⟩ | ⟨hno, rfl⟩, hb⟩
  · obtain ⟨rfl, rfl, rfl, rfl, rfl⟩ := txt_inj hm ⟨m0, m1⟩ h h'
    exact ⟨rfl, hb⟩
  · exact absurd h (hno op a b c m hm.1 hm.2)
theorem parse_no {s : ByteArray} (hs : s.size ≤ 1000) (h : ∀ op a b c m : Int, -32768 ≤ m → m ≤ 32767 → ¬ Txt s op a b c m) (w : World) (hr : Ready w) : Calls Tryd.prog 33 #[.string s] w fun e w' => e = .returned (.tuple #[code 0 0 0 0 0, .int .i64 2]) ∧ Below w.heap.size w w' := by
  refine (parse_c s hs w hr).mono ?_
  rintro e w' ⟨⟨op', a', b', c', m', m0, m1, h', rfl⟩ | ⟨hno, rfl⟩, hb⟩
  · exact absurd h' (h _ _ _ _ _ m0 m1)
  · exact ⟨rfl, hb⟩
theorem rparse_yes {s : ByteArray} {op a b c m : Int} (hm : -32768 ≤ m ∧ m ≤ 32767) (h : Txt s op a b c m) (w : World) : Calls Tryd.prog 34 #[.string s] w fun e w' => e = .returned (.tuple #[code op a b c m, .int .i64 0]) ∧ Below w.heap.size w w' := by
  refine (rparse_c s (Nat.le_trans (txt_bound hm h) (by decide)) w).mono ?_
  rintro e w' ⟨⟨op', a', b', c', m', m0, m1, h', rfl⟩ | ⟨hno, rfl⟩, hb⟩
  · obtain ⟨rfl, rfl, rfl, rfl, rfl⟩ := txt_inj hm ⟨m0, m1⟩ h h'
    exact ⟨rfl, hb⟩
  · exact absurd h (hno op a b c m hm.1 hm.2)
theorem rparse_no {s : ByteArray} (hs : s.size ≤ 1000) (h : ∀ op a b c m : Int, -32768 ≤ m → m ≤ 32767 → ¬ Txt s op a b c m) (w : World) : Calls Tryd.prog 34 #[.string s] w fun e w' => e = .returned (.tuple #[code 0 0 0 0 0, .int .i64 2]) ∧ Below w.heap.size w w' := by
  refine (rparse_c s hs w).mono ?_
  rintro e w' ⟨⟨op', a', b', c', m', m0, m1, h', rfl⟩ | ⟨hno, rfl⟩, hb⟩
  · exact absurd h' (h _ _ _ _ _ m0 m1)
  · exact ⟨rfl, hb⟩

theorem format_yes (op a b c m : Int) (hm : -32768 ≤ m ∧ m ≤ 32767) (hv : vld op a b c m = true) (w : World) (hr : Ready w) : Calls Tryd.prog 9 #[code op a b c m] w fun e w' => e = .returned (.bool true) ∧ Below w.heap.size w w' := by
  obtain ⟨s, hs⟩ : ∃ s, fmtS op a b c m = s := ⟨_, rfl⟩
  have HT := Lib.hid (show Txt s op a b c m from ⟨hv, hs⟩)
  have HV := Lib.hid hv
  have HS := Lib.hid hs
  have hss : (s.toList == s.toList) = true := by simp
  clear hv hs
  go_enter Tryd.func9, Tryd.ntmps9
  go_wp2_with fail
  have C0 := Cod.new (w := w) op a b c m 24
  refine (wakes_c _ (hr.below (ba w _)).t).mono ?_
  rintro e w1 ⟨rfl, hb1⟩
  have K : KC w w.heap.size op a b c m w1 := ⟨bt (ba w _) hb1, C0.next hb1⟩
  clear hb1 C0
  obtain ⟨-, ⟨lt, c0, c1, c2, c3, c4, f0, f1, f2, f3, f4⟩⟩ := id K
  go_wp2_with fail
  refine (fmt_c op a b c m hm HV.out _ (hr.below K.below).t).mono ?_
  rintro e w2 ⟨rfl, hb2⟩
  rw [HS.out]
  replace K := K.next hb2
  clear hb2 lt c0 c1 c2 c3 c4 f0 f1 f2 f3 f4
  obtain ⟨-, ⟨lt, c0, c1, c2, c3, c4, f0, f1, f2, f3, f4⟩⟩ := id K
  go_wp2_with fail
  refine (rfmt_yes op a b c m hm HV.out _).mono ?_
  rintro e w3 ⟨rfl, hb3⟩
  rw [HS.out]
  replace K := K.next hb3
  clear hb3 lt c0 c1 c2 c3 c4 f0 f1 f2 f3 f4
  obtain ⟨-, ⟨lt, c0, c1, c2, c3, c4, f0, f1, f2, f3, f4⟩⟩ := id K
  go_wp2_with fail
  refine (parse_yes hm HT.out _ (hr.below K.below)).mono ?_
  rintro e w4 ⟨rfl, hb4⟩
  replace K := K.next hb4
  clear hb4 lt c0 c1 c2 c3 c4 f0 f1 f2 f3 f4
  obtain ⟨-, ⟨lt, c0, c1, c2, c3, c4, f0, f1, f2, f3, f4⟩⟩ := id K
  go_wp2_with fail
  have B2 := Cod.new (w := w4) op a b c m 24
  replace K := K.next (ba w4 (.cells #[.int .i64 op, .int .i64 a, .int .i64 b, .int .i64 c, .int .i16 m] 24))
  refine (rvalid_c op a b c m hm _).mono ?_
  rintro e w5 ⟨rfl, hb5⟩
  rw [HV.out]
  replace K := K.next hb5
  replace B2 := B2.next hb5
  clear hb5 lt c0 c1 c2 c3 c4 f0 f1 f2 f3 f4
  obtain ⟨-, ⟨lt, c0, c1, c2, c3, c4, f0, f1, f2, f3, f4⟩⟩ := id K
  obtain ⟨lt', d0, d1, d2, d3, d4, g0, g1, g2, g3, g4⟩ := id B2
  go_wp2_with fail
  go_ret
  exact ⟨rfl, K.below⟩
theorem format_no (op a b c m : Int) (hm : -32768 ≤ m ∧ m ≤ 32767) (hv : vld op a b c m = false) (w : World) (hr : Ready w) : Calls Tryd.prog 9 #[code op a b c m] w fun e w' => e = .returned (.bool true) ∧ Below w.heap.size w w' := by
  have HV := Lib.hid hv
  clear hv
  go_enter Tryd.func9, Tryd.ntmps9
  go_wp2_with fail
  have C0 := Cod.new (w := w) op a b c m 24
  refine (wakes_c _ (hr.below (ba w _)).t).mono ?_
  rintro e w1 ⟨rfl, hb1⟩
  have K : KC w w.heap.size op a b c m w1 := ⟨bt (ba w _) hb1, C0.next hb1⟩
  clear hb1 C0
  obtain ⟨-, ⟨lt, c0, c1, c2, c3, c4, f0, f1, f2, f3, f4⟩⟩ := id K
  go_wp2_with fail
  refine (fmt_no op a b c m hm HV.out _).mono ?_
  rintro e w2 ⟨rfl, hb2⟩
  replace K := K.next hb2
  clear hb2 lt c0 c1 c2 c3 c4 f0 f1 f2 f3 f4
  obtain ⟨-, ⟨lt, c0, c1, c2, c3, c4, f0, f1, f2, f3, f4⟩⟩ := id K
  go_wp2_with fail
  refine (rfmt_no op a b c m hm HV.out _).mono ?_
  rintro e w3 ⟨rfl, hb3⟩
  replace K := K.next hb3
  clear hb3 lt c0 c1 c2 c3 c4 f0 f1 f2 f3 f4
  obtain ⟨-, ⟨lt, c0, c1, c2, c3, c4, f0, f1, f2, f3, f4⟩⟩ := id K
  go_wp2_with fail
  refine (parse_no (s := ⟨#[]⟩) (by decide) (fun _ _ _ _ _ _ _ h => txt_ne h rfl) _ (hr.below K.below)).mono ?_
  rintro e w4 ⟨rfl, hb4⟩
  replace K := K.next hb4
  clear hb4 lt c0 c1 c2 c3 c4 f0 f1 f2 f3 f4
  obtain ⟨-, ⟨lt, c0, c1, c2, c3, c4, f0, f1, f2, f3, f4⟩⟩ := id K
  go_wp2_with fail
  replace K := K.next (ba w4 (.cells #[.int .i64 0, .int .i64 0, .int .i64 0, .int .i64 0, .int .i16 0] 24))
  refine (rvalid_c op a b c m hm _).mono ?_
  rintro e w5 ⟨rfl, hb5⟩
  rw [HV.out]
  replace K := K.next hb5
  go_wp2_with fail
  go_ret
  exact ⟨rfl, K.below⟩
theorem format_law (op a b c m : Int) (hm : -32768 ≤ m ∧ m ≤ 32767) (w : World) (hr : Ready w) : Calls Tryd.prog 9 #[code op a b c m] w fun e w' => e = .returned (.bool true) ∧ Below w.heap.size w w' := by
  cases hv : vld op a b c m
  · exact format_no op a b c m hm hv w hr
  · exact format_yes op a b c m hm hv w hr

theorem parse_law (s : ByteArray) (hss : s.size ≤ 140737488351232) (w : World) (hr : Ready w) : Calls Tryd.prog 10 #[.string s] w fun e w' => e = .returned (.bool true) ∧ Below w.heap.size w w' := by
  by_cases hlong : 100 < s.size
  · have h1 : (100 : Int) < (s.size : Int) := by omega
    clear hlong
    go_enter Tryd.func10, Tryd.ntmps10
    go_wp2_with fail
    refine (wakes_c _ hr.t).mono ?_
    rintro e w1 ⟨rfl, hb1⟩
    go_wp2_with fail
    go_ret
    exact ⟨rfl, hb1⟩
  · have h1 : ¬ (100 : Int) < (s.size : Int) := by omega
    have hs : s.size ≤ 1000 := by omega
    clear hlong
    by_cases hT : ∃ op a b c m : Int, (-32768 ≤ m ∧ m ≤ 32767) ∧ Txt s op a b c m
    · obtain ⟨op, a, b, c, m, hm, hT⟩ := hT
      have HT := Lib.hid hT
      have HV := Lib.hid hT.1
      have HS := Lib.hid hT.2
      have hq : (s.toList == s.toList) = true := by simp
      clear hT
      go_enter Tryd.func10, Tryd.ntmps10
      go_wp2_with fail
      refine (wakes_c _ hr.t).mono ?_
      rintro e w1 ⟨rfl, hb1⟩
      go_wp2_with fail
      refine (parse_yes hm HT.out _ (hr.below hb1)).mono ?_
      rintro e w2 ⟨rfl, hb2⟩
      replace hb1 := bt hb1 hb2
      clear hb2
      go_wp2_with fail
      have A0 := Cod.new (w := w2) op a b c m 24
      replace hb1 := bt hb1 (ba w2 (.cells #[.int .i64 op, .int .i64 a, .int .i64 b, .int .i64 c, .int .i16 m] 24))
      refine (rparse_yes hm HT.out _).mono ?_
      rintro e w3 ⟨rfl, hb3⟩
      replace A0 := A0.next hb3
      replace hb1 := bt hb1 hb3
      clear hb3
      obtain ⟨lt', d0, d1, d2, d3, d4, g0, g1, g2, g3, g4⟩ := id A0
      go_wp2_with fail
      replace hb1 := bt hb1 (ba w3 (.cells #[.int .i64 op, .int .i64 a, .int .i64 b, .int .i64 c, .int .i16 m] 24))
      refine (fmt_c op a b c m hm HV.out _ (hr.below hb1).t).mono ?_
      rintro e w4 ⟨rfl, hb4⟩
      rw [HS.out]
      go_wp2_with fail
      go_ret
      exact ⟨rfl, bt hb1 hb4⟩
    · have HN := Lib.hid (show ∀ op a b c m : Int, -32768 ≤ m → m ≤ 32767 → ¬ Txt s op a b c m from fun op a b c m m0 m1 h => hT ⟨op, a, b, c, m, ⟨m0, m1⟩, h⟩)
      clear hT
      go_enter Tryd.func10, Tryd.ntmps10
      go_wp2_with fail
      refine (wakes_c _ hr.t).mono ?_
      rintro e w1 ⟨rfl, hb1⟩
      go_wp2_with fail
      refine (parse_no hs HN.out _ (hr.below hb1)).mono ?_
      rintro e w2 ⟨rfl, hb2⟩
      replace hb1 := bt hb1 hb2
      clear hb2
      go_wp2_with fail
      have A0 := Cod.new (w := w2) 0 0 0 0 0 24
      replace hb1 := bt hb1 (ba w2 (.cells #[.int .i64 0, .int .i64 0, .int .i64 0, .int .i64 0, .int .i16 0] 24))
      refine (rparse_no hs HN.out _).mono ?_
      rintro e w3 ⟨rfl, hb3⟩
      replace A0 := A0.next hb3
      replace hb1 := bt hb1 hb3
      clear hb3
      obtain ⟨lt', d0, d1, d2, d3, d4, g0, g1, g2, g3, g4⟩ := id A0
      go_wp2_with fail
      go_ret
      exact ⟨rfl, bt hb1 (ba w3 _)⟩
end Go.Proofs.YtpgjmegecfaijaaDoor
