/-
  The walks of SensorParse and SensorFormat.
-/
import Derived.LaidMore
import Derived.Test.YtgdaekjodhebfaaDoorWone
import Derived.Test.YtgdaekjodhebfaaDoorRpa
namespace Go.Proofs.YtgdaekjodhebfaaDoor
open Go.RowKit
attribute [local go_sem ↓] Go.wp_at_zero Go.wp_at_succ

/-- what is read of a text of a valid list -/
theorem parsed {l : List (Int × Int)} (hin : InB l) (hv : validL l = true) {w w' : World} {e : Ending} (h : ParsesP (txt l) w e w') : ∃ tp, e = .returned (.tuple #[.pointer (some ⟨tp, 0, none⟩), .int .i64 0, .int .i64 0]) ∧ Trc w' tp l ∧ Below w.heap.size w w' := by
  obtain ⟨l2, rest, hs, hin2, hv2, h, hb⟩ := h
  have hu := txt_uniq l l2 [] [] rest hin hin2 (by rw [List.append_nil]; exact hs) hv hv2 (.inl rfl) (by
    rcases h with ⟨h, -⟩ | ⟨-, h, -⟩
    · exact .inl h
    · exact .inr h)
  obtain ⟨rfl, rfl⟩ := hu
  rcases h with ⟨-, tp, he, -, T⟩ | ⟨h, -⟩
  · exact ⟨tp, he, T, hb⟩
  · exact absurd rfl h
theorem itoa16_len {v : Int} (h : B16 v) : (Lib.itoa v).length ≤ 6 := by
  have h1 := h.1
  have h2 := h.2
  by_cases hn : v < 0
  · rw [Dec.itoa_neg hn]
    have := Dec.decDigits_len (u := v.natAbs) (k := 4) (by omega)
    simp; omega
  · rw [Dec.itoa_nonneg (by omega)]
    have := Dec.decDigits_len (u := v.toNat) (k := 4) (by omega)
    omega
theorem time_len {t : Int} (h0 : 0 ≤ t) (h1 : t ≤ 1099511627776) : (Lib.itoa t).length ≤ 13 := by
  rw [Dec.itoa_nonneg h0]
  exact Dec.decDigits_len (u := t.toNat) (k := 12) (by omega)
theorem txt_le2 : ∀ (l : List (Int × Int)), InB l → (∀ x ∈ l, 0 ≤ x.1 ∧ x.1 ≤ 1099511627776) → (txt l).length ≤ l.length * 21
  | [], _, _ => by simp [txt]
  | x :: l, h, hp => by
    have h1 := h x (by simp)
    have h2 := itoa16_len h1.2
    have h3 := time_len (hp x (by simp)).1 (hp x (by simp)).2
    have h4 := txt_le2 l (fun y hy => h y (by simp [hy])) (fun y hy => hp y (by simp [hy]))
    rw [txt_cons]
    simp [lineT]
    omega
theorem valid_bnd {l : List (Int × Int)} (hv : validL l = true) : ∀ x ∈ l, 0 ≤ x.1 ∧ x.1 ≤ 1099511627776 := fun x hx => by
  obtain ⟨i, hi, rfl⟩ := List.getElem_of_mem hx
  exact bound_at hv hi
theorem valid_pos {l : List (Int × Int)} (hv : validL l = true) : ∀ x ∈ l, 0 ≤ x.1 := fun x hx => by
  obtain ⟨i, hi, rfl⟩ := List.getElem_of_mem hx
  exact (bound_at hv hi).1
set_option maxRecDepth 100000 in
set_option maxHeartbeats 1000000 in
theorem sensorFormat_w (l : List (Int × Int)) (hlm : (l.length : Int) ≤ 9223372036854775807) (hin : InB l) (A : Option Addr) (cap : Nat) (w : World) (hr : Ready w) (C : Chs w A l) : Calls Tryd.prog 9 #[.slice A l.length cap] w (Yes w) := by
  have HC := Lib.hid C
  have HI := Lib.hid hin
  clear C hin
  go_enter Tryd.func9, Tryd.ntmps9
  go_wp2_with fail
  refine (made_c l hlm A cap _ HC.out).mono ?_
  intro e w1 h1
  by_cases hc : l.length ≤ 60 ∧ validL l = true
  · obtain ⟨tp, rfl, T, hb1⟩ := h1.yes hc
    have hl : l.length ≤ 1000 := by omega
    have hl60 : l.length ≤ 60 := hc.1
    have HV := Lib.hid hc.2
    have HLE := Lib.hid (txt_le2 l HI.out (valid_bnd HV.out))
    clear h1 hc
    have C1 := HC.out.next hb1
    go_wp2_with fail
    refine (sformat_c l hl HI.out tp _ (hr.below hb1) T).mono ?_
    rintro e w2 ⟨rfl, hb2⟩
    have k2 := bt hb1 hb2
    replace C1 := C1.next hb2
    clear hb1 hb2 T
    go_wp2_with fail
    have hsz : (⟨(txt l).toArray⟩ : ByteArray).size ≤ 2000 := by have := HLE.out; simp [ByteArray.size]; omega
    refine (sparse_c _ hsz _ (hr.below k2)).mono ?_
    intro e w3 h3
    obtain ⟨up, rfl, U, hb3⟩ := parsed HI.out HV.out h3
    replace k2 := bt k2 hb3
    replace C1 := C1.next hb3
    clear hb3 h3 hsz
    have HU := Lib.hid U
    clear U
    go_wp2_with fail
    refine (changes_c l hl A cap _ C1).mono ?_
    rintro e w4 ⟨A4, cap4, rfl, C4, hb4⟩
    replace k2 := bt k2 hb4
    replace C1 := C1.next hb4
    have HU4 := Lib.hid (HU.out.next hb4)
    clear hb4 HU
    go_wp2_with fail
    refine (rformat_c l hl HI.out (valid_pos HV.out) A4 cap4 _ C4).mono ?_
    rintro e w5 ⟨rfl, hb5⟩
    replace k2 := bt k2 hb5
    replace C1 := C1.next hb5
    have U5 := HU4.out.next hb5
    clear hb5 HU4 C4
    have hse : (!txt l == txt l) = false := by simp
    go_wp2_with fail
    refine (tchanges_c l hl up _ U5).mono ?_
    rintro e w6 ⟨A6, cap6, rfl, C6, hb6⟩
    replace k2 := bt k2 hb6
    replace C1 := C1.next hb6
    clear hb6 U5
    go_wp2_with fail
    refine (changes_c l hl A6 cap6 _ C6).mono ?_
    rintro e w7 ⟨A7, cap7, rfl, C7, hb7⟩
    replace k2 := bt k2 hb7
    replace C1 := C1.next hb7
    clear hb7 C6
    go_wp2_with fail
    refine (changes_c l hl A cap _ C1).mono ?_
    rintro e w8 ⟨A8, cap8, rfl, C8, hb8⟩
    replace k2 := bt k2 hb8
    replace C7 := C7.next hb8
    clear hb8 C1
    go_wp2_with fail
    refine (same_c l hl A7 A8 cap7 cap8 _ C7 C8).mono ?_
    rintro e w9 ⟨rfl, hb9⟩
    replace k2 := bt k2 hb9
    clear hb9 C7 C8
    go_wp2_with fail
    refine (examples_c _ (hr.below k2)).mono ?_
    rintro e w10 ⟨rfl, hb10⟩
    replace k2 := bt k2 hb10
    go_wp2_with fail
    go_ret
    exact ⟨rfl, k2⟩
  · obtain ⟨rfl, hb1⟩ := h1.no hc
    clear h1 hc
    go_wp2_with fail
    refine (examples_c _ (hr.below hb1)).mono ?_
    rintro e w6 ⟨rfl, hb6⟩
    have k2 := bt hb1 hb6
    go_wp2_with fail
    go_ret
    exact ⟨rfl, k2⟩
set_option maxRecDepth 100000 in
set_option maxHeartbeats 2000000 in
theorem sensorParse_w (s : ByteArray) (hs0 : s.size ≤ 140737488351232) (w : World) (hr : Ready w) : Calls Tryd.prog 8 #[.string s] w (Yes w) := by
  by_cases hs : s.size ≤ 300
  · have d0 : ¬ (300 : Int) < (s.size : Int) := by omega
    have hs2 : s.size ≤ 2000 := by omega
    go_enter Tryd.func8, Tryd.ntmps8
    go_wp2_with fail
    refine (sparse_c s hs2 _ hr).mono ?_
    rintro e w1 ⟨l, rest, hsp, hin, hv, hcase, hb1⟩
    have hl4 := txt_len l
    have hl5 : l.length ≤ 500 := by
      have := congrArg List.length hsp
      rw [dlen, List.length_append] at this
      omega
    have hl : l.length ≤ 1000 := by omega
    have HI := Lib.hid hin
    have HV := Lib.hid hv
    have HS := Lib.hid hsp
    clear hin hv hsp hl4
    rcases hcase with ⟨rfl, tp, rfl, -, T⟩ | ⟨hne, hst, rfl⟩
    · have HT := Lib.hid T
      have HK1 := Lib.hid hb1
      clear T hb1
      go_wp2_with fail
      refine (rparse_c s hs2 _).mono ?_
      rintro e w2 ⟨l2, rest2, hsp2, hin2, hv2, hcase2, hb2⟩
      have hu := txt_uniq l l2 [] [] rest2 HI.out hin2 (by rw [← HS.out]; exact hsp2) HV.out hv2 (.inl rfl) (by
        rcases hcase2 with ⟨h, -⟩ | ⟨-, h, -⟩
        · exact .inl h
        · exact .inr h)
      obtain ⟨rfl, rfl⟩ := hu
      rcases hcase2 with ⟨-, A2, cap2, rfl, C2⟩ | ⟨h, -⟩
      · have T2 := HT.out.next hb2
        have k2 := bt HK1.out hb2
        have HSE := Lib.hid (show (txt l == s.toList) = true from by rw [Lib.toList_data, HS.out]; simp)
        clear hb2 HT HK1 hin2 hv2 hsp2
        go_wp2_with fail
        refine (tchanges_c l hl tp _ T2).mono ?_
        rintro e w3 ⟨A3, cap3, rfl, C3, hb3⟩
        replace k2 := bt k2 hb3
        replace C2 := C2.next hb3
        replace T2 := T2.next hb3
        clear hb3
        go_wp2_with fail
        refine (changes_c l hl A3 cap3 _ C3).mono ?_
        rintro e w4 ⟨A4, cap4, rfl, C4, hb4⟩
        replace k2 := bt k2 hb4
        replace C2 := C2.next hb4
        replace T2 := T2.next hb4
        clear hb4 C3
        go_wp2_with fail
        refine (same_c l hl A4 A2 cap4 cap2 _ C4 C2).mono ?_
        rintro e w5 ⟨rfl, hb5⟩
        replace k2 := bt k2 hb5
        replace T2 := T2.next hb5
        clear hb5 C4 C2
        go_wp2_with fail
        refine (sformat_c l hl HI.out tp _ (hr.below k2) T2).mono ?_
        rintro e w6 ⟨rfl, hb6⟩
        replace k2 := bt k2 hb6
        clear hb6 T2
        have hse := HSE.out
        go_wp2_with fail
        refine (examples_c _ (hr.below k2)).mono ?_
        rintro e w10 ⟨rfl, hb10⟩
        replace k2 := bt k2 hb10
        go_wp2_with fail
        go_ret
        exact ⟨rfl, k2⟩
      · exact absurd rfl h
    · have HST := Lib.hid hst
      have HNE := Lib.hid hne
      have HK1 := Lib.hid hb1
      clear hst hne hb1
      go_wp2_with fail
      refine (rparse_c s hs2 _).mono ?_
      rintro e w2 ⟨l2, rest2, hsp2, hin2, hv2, hcase2, hb2⟩
      have hu := txt_uniq l l2 [] rest rest2 HI.out hin2 (by rw [← HS.out]; exact hsp2) HV.out hv2 (.inr HST.out) (by
        rcases hcase2 with ⟨h, -⟩ | ⟨-, h, -⟩
        · exact .inl h
        · exact .inr h)
      obtain ⟨rfl, rfl⟩ := hu
      rcases hcase2 with ⟨h, -⟩ | ⟨-, -, rfl⟩
      · exact absurd h HNE.out
      · have k2 := bt HK1.out hb2
        clear hb2 HK1 hin2 hv2 hsp2 HST HNE
        go_wp2_with fail
        refine (examples_c _ (hr.below k2)).mono ?_
        rintro e w10 ⟨rfl, hb10⟩
        replace k2 := bt k2 hb10
        go_wp2_with fail
        go_ret
        exact ⟨rfl, k2⟩
  · have d0 : (300 : Int) < (s.size : Int) := by omega
    go_enter Tryd.func8, Tryd.ntmps8
    go_wp2_with fail
    refine (examples_c _ hr).mono ?_
    rintro e w10 ⟨rfl, hb10⟩
    go_wp2_with fail
    go_ret
    exact ⟨rfl, hb10⟩
theorem sensorFormat_f (l : List (Int × Int)) (hlm : (l.length : Int) ≤ 9223372036854775807) (hb : Bnd l) (w : World) (hr : Ready w) (A : Option Addr) (cap : Nat) (C : Chs w A l) : Calls Tryd.prog 9 #[.slice A l.length cap] w fun e w' => e = .returned (.bool true) ∧ Below w.heap.size w w' := sensorFormat_w l hlm hb A cap w hr C
theorem sensorParse_f (s : ByteArray) (hs : s.size ≤ 140737488351232) (w : World) (hr : Ready w) : Calls Tryd.prog 8 #[.string s] w fun e w' => e = .returned (.bool true) ∧ Below w.heap.size w w' := sensorParse_w s hs w hr
theorem mx_of (W : World) (h : W.ShapedOpen Tryd.prog) : ∃ m, W.cell? ⟨0, 0, none⟩ = some (.int .i64 m) :=
  Go.Proofs.cell_of_shapedOpen_int (zero := #[.int .i64 0]) (t := 3) h (of_decide_eq_true (by kernel_rfl)) (by kernel_rfl) rfl (by kernel_rfl) (by kernel_rfl) Tryd.underlying3
end Go.Proofs.YtgdaekjodhebfaaDoor
