/-
  interval's Format and Parse: what they return; trickleref05's Parse likewise.
-/
import Derived.Test.YtmihogccpgdpaaaDoorRefParse
namespace Go.Proofs.YtmihogccpgdpaaaDoor
open Go.RowKit

theorem dig46 (u : Nat) : (46 : UInt8) ∉ Lib.decDigits u := fun h => absurd (Dec.decDigits_dig u 46 h).1 (by decide)
theorem itoa46 {n : Int} (h : 0 ≤ n) : (46 : UInt8) ∉ Lib.itoa n := by rw [Dec.itoa_nonneg h]; exact dig46 _
theorem fvals_fmt {a b : Int} (h : vld a b = true) : fvals (fmtIv a b) = (a, b) := by
  obtain ⟨a0, a1, a2⟩ := vld_iff.1 h
  by_cases e : a = b
  · rw [fmt_one h e, fvals_none (index_none_of (itoa46 a0)), numv_itoa a0 (by omega), e]
  · rw [fmt_two h e, ← List.append_assoc, fvals_some (index_at (itoa46 a0))]
    have h1 : (Lib.itoa a ++ [46, 46] ++ Lib.itoa b).take (Lib.itoa a).length = Lib.itoa a := by rw [List.append_assoc, List.take_left]
    have h2 : (Lib.itoa a ++ [46, 46] ++ Lib.itoa b).drop ((Lib.itoa a).length + 2) = Lib.itoa b := by
      rw [show (Lib.itoa a).length + 2 = (Lib.itoa a ++ [46, 46]).length by simp, List.drop_left]
    rw [h1, h2, numv_itoa a0 (by omega), numv_itoa (by omega) (by omega)]

theorem rparse_yes (a b : Int) (h : vld a b = true) (s : ByteArray) (hs : s.size ≤ 140737488351232) (hf : s.data.toList = fmtIv a b) (w : World) :
    Calls Tryd.prog 27 #[.string s] w fun e w' => e = ivE a b 0 ∧ Below w.heap.size w w' := by
  have := rparse_c s hs w
  rw [hf, fvals_fmt h, rxE_yes h rfl] at this
  exact this
theorem rparse_no (s : ByteArray) (hs : s.size ≤ 140737488351232) (hf : ∀ a b : Int, vld a b = true → s.data.toList ≠ fmtIv a b) (w : World) :
    Calls Tryd.prog 27 #[.string s] w fun e w' => e = ivE 0 0 2 ∧ Below w.heap.size w w' := by
  have := rparse_c s hs w
  rw [rxE_no (fun h => hf _ _ h.1 h.2.symm)] at this
  exact this

theorem itoa_size (n : Int) (h0 : -9223372036854775808 ≤ n) (h1 : n ≤ 9223372036854775807) : (⟨(Lib.itoa n).toArray⟩ : ByteArray).size ≤ 21 := by
  have := Lib.itoa_length_le n h0 h1
  simpa [ByteArray.size] using this
theorem format_c (a b : Int) (l0 : -9223372036854775808 ≤ a) (l1 : a ≤ 9223372036854775807) (w : World) (hr : Ready w) : Calls Tryd.prog 24 #[iv a b] w fun e w' => e = .returned (.string ⟨(fmtIv a b).toArray⟩) ∧ Below w.heap.size w w' := by
  cases h1 : vld a b
  · have hd := Lib.hid (fmt_no h1)
    go_enter Tryd.func24, Tryd.ntmps24
    go_wp2_with fail
    refine (formatInt_c a l0 l1 _ (hr.below (ba _ _))).mono ?_
    rintro e w1 ⟨rfl, hb1⟩
    have k1 := (B1.start w a b).next hb1
    clear hb1
    obtain ⟨kb, ks, ka, kb'⟩ := id k1
    go_wp2_with fail
    refine (valid_c _ _ _).mono ?_
    rintro e w2 ⟨rfl, hb2⟩
    have k2 := k1.next hb2
    clear hb2 k1 kb ks ka kb'
    obtain ⟨kb, ks, ka, kb'⟩ := id k2
    go_wp2_with fail
    go_ret
    exact ⟨ret_str (by rw [hd.out]), kb⟩
  · obtain ⟨a0, a1, a2⟩ := vld_iff.1 h1
    by_cases h2 : a = b
    · have hd := Lib.hid (fmt_one h1 h2)
      subst h2
      go_enter Tryd.func24, Tryd.ntmps24
      go_wp2_with fail
      refine (formatInt_c a l0 l1 _ (hr.below (ba _ _))).mono ?_
      rintro e w1 ⟨rfl, hb1⟩
      have k1 := (B1.start w a a).next hb1
      clear hb1
      obtain ⟨kb, ks, ka, kb'⟩ := id k1
      go_wp2_with fail
      refine (valid_c _ _ _).mono ?_
      rintro e w2 ⟨rfl, hb2⟩
      have k2 := k1.next hb2
      clear hb2 k1 kb ks ka kb'
      obtain ⟨kb, ks, ka, kb'⟩ := id k2
      go_wp2_with fail
      go_ret
      exact ⟨ret_str (by rw [hd.out]), kb⟩
    · have hd := Lib.hid (fmt_two h1 h2)
      have la : (Lib.itoa a).length ≤ 21 := Lib.itoa_length_le a (by omega) (by omega)
      have lb : (Lib.itoa b).length ≤ 21 := Lib.itoa_length_le b (by omega) (by omega)
      have r1 := fun W => run_string_add_sum (P := Tryd.prog) W ⟨(Lib.itoa a).toArray⟩ ⟨#[46, 46]⟩ (by simp [ByteArray.size]; omega)
      have r2 := fun W => run_string_add_sum (P := Tryd.prog) W (⟨(Lib.itoa a).toArray⟩ ++ ⟨#[46, 46]⟩) ⟨(Lib.itoa b).toArray⟩ (by simp [ByteArray.size]; omega)
      go_enter Tryd.func24, Tryd.ntmps24
      go_wp2_with fail
      refine (formatInt_c a l0 l1 _ (hr.below (ba _ _))).mono ?_
      rintro e w1 ⟨rfl, hb1⟩
      have hr1 := (hr.below (ba w (.cells #[.int .i64 a, .int .i64 b] 23))).below hb1
      have k1 := (B1.start w a b).next hb1
      clear hb1
      obtain ⟨kb, ks, ka, kb'⟩ := id k1
      go_wp2_with fail
      refine (valid_c _ _ _).mono ?_
      rintro e w2 ⟨rfl, hb2⟩
      have hr2 := hr1.below hb2
      have k2 := k1.next hb2
      clear hb2 k1 kb ks ka kb'
      obtain ⟨kb, ks, ka, kb'⟩ := id k2
      go_wp2_with fail
      refine (formatInt_c b (by omega) (by omega) _ hr2).mono ?_
      rintro e w3 ⟨rfl, hb3⟩
      have k3 := k2.next hb3
      clear hb3 k2 kb ks ka kb'
      obtain ⟨kb, ks, ka, kb'⟩ := id k3
      go_wp2_with fail
      go_ret
      exact ⟨ret_str (by rw [hd.out, show (⟨#[46, 46]⟩ : ByteArray) = ⟨([46, 46] : List UInt8).toArray⟩ from rfl, bytes_append, bytes_append, List.append_assoc]), kb⟩

/-- the result's cells, zero, and those of x, in block X -/
structure PX (w : World) (X : Nat) (lo hi : Int) (W : World) : Prop where
  below : Below w.heap.size w W
  size : X < W.heap.size
  more : w.heap.size < X
  r0 : W.cell? ⟨w.heap.size, 0, none⟩ = some (.int .i64 0)
  r1 : W.cell? ⟨w.heap.size, 1, none⟩ = some (.int .i64 0)
  x0 : W.cell? ⟨X, 0, none⟩ = some (.int .i64 lo)
  x1 : W.cell? ⟨X, 1, none⟩ = some (.int .i64 hi)
  f0 : W.frozen? ⟨w.heap.size, 0, none⟩ = false
  f1 : W.frozen? ⟨w.heap.size, 1, none⟩ = false
theorem PX.next {w W W' : World} {X : Nat} {a b : Int} (h : PX w X a b W) (hb : Below W.heap.size W W') : PX w X a b W' := by
  obtain ⟨hc, hf⟩ := bcell hb
  have hs := h.size
  have hm := h.more
  exact ⟨h.below.trans (hb.mono h.below.size), Nat.lt_of_lt_of_le hs hb.size, hm, (hc _ _ (by omega)).trans h.r0, (hc _ _ (by omega)).trans h.r1, (hc _ _ (by omega)).trans h.x0, (hc _ _ (by omega)).trans h.x1, (hf _ _ (by omega)).trans h.f0, (hf _ _ (by omega)).trans h.f1⟩
/-- the result's cells alone -/
structure P0 (w : World) (W : World) : Prop where
  below : Below w.heap.size w W
  size : w.heap.size < W.heap.size
  r0 : W.cell? ⟨w.heap.size, 0, none⟩ = some (.int .i64 0)
  r1 : W.cell? ⟨w.heap.size, 1, none⟩ = some (.int .i64 0)
  f0 : W.frozen? ⟨w.heap.size, 0, none⟩ = false
  f1 : W.frozen? ⟨w.heap.size, 1, none⟩ = false
theorem P0.start (w : World) : P0 w (w.alloc (.cells #[.int .i64 0, .int .i64 0] 23)) := by
  refine ⟨ba _ _, by simp, ?_, ?_, ?_, ?_⟩ <;> go_simp
theorem P0.next {w W W' : World} (h : P0 w W) (hb : Below W.heap.size W W') : P0 w W' := by
  obtain ⟨hc, hf⟩ := bcell hb
  have hs := h.size
  exact ⟨h.below.trans (hb.mono h.below.size), Nat.lt_of_lt_of_le hs hb.size, (hc _ _ hs).trans h.r0, (hc _ _ hs).trans h.r1, (hf _ _ hs).trans h.f0, (hf _ _ hs).trans h.f1⟩
theorem P0.box {w W : World} (h : P0 w W) (a b : Int) : PX w W.heap.size a b (W.alloc (.cells #[.int .i64 a, .int .i64 b] 23)) := by
  have k := h.next (ba W (.cells #[.int .i64 a, .int .i64 b] 23))
  refine ⟨k.below, by simp, h.size, k.r0, k.r1, ?_, ?_, k.f0, k.f1⟩ <;> go_simp

set_option maxHeartbeats 1000000 in
theorem parse_one (a : Int) (h : vld a a = true) (s : ByteArray) (hs : s.size ≤ 1000) (hf : s.data.toList = Lib.itoa a) (w : World) (hr : Ready w) :
    Calls Tryd.prog 26 #[.string s] w fun e w' => e = ivE a a 0 ∧ Below w.heap.size w w' := by
  obtain ⟨a0, a1, a2⟩ := vld_iff.1 h
  have hc : Lib.cut s.data.toList (⟨#[46, 46]⟩ : ByteArray).data.toList = (Lib.itoa a, [], false) := by rw [hf]; exact cut_none (itoa46 a0)
  have hp : Lib.parseIntB 64 (⟨(Lib.itoa a).toArray⟩ : ByteArray).data.toList = .ok a := Dec.parseIntB_itoa 64 a (by decide) (by decide) (by simp; omega) (by simp; omega)
  have hq : (!fmtIv a a == s.toList) = false := by rw [Lib.toList_data, hf, fmt_one h rfl]; simp
  have hsz := itoa_size a (by omega) (by omega)
  have HC := Lib.hid hc
  have HP := Lib.hid hp
  have HV := Lib.hid h
  clear hc hp hf h
  go_enter Tryd.func26, Tryd.ntmps26
  go_wp2_with fail
  have hr0 := hr.below (ba w (.cells #[.int .i64 0, .int .i64 0] 23))
  have k0 := P0.start w
  refine (cut_is s _ (by omega) HC.out _ hr0).mono ?_
  rintro e w1 ⟨rfl, hb1⟩
  have hr1 := hr0.below hb1
  have k1 := k0.next hb1
  clear hb1 k0 hr0
  go_wp2_with fail
  refine (parse64_ok _ (by omega) a HP.out _).mono ?_
  rintro e w2 ⟨rfl, hb2⟩
  have hr2 := hr1.below hb2
  have k2 := k1.next hb2
  clear hb2 k1 hr1
  go_wp2_with fail
  refine (parse64_ok _ (by omega) a HP.out _).mono ?_
  rintro e w3 ⟨rfl, hb3⟩
  have hr3 := hr2.below hb3
  have k3 := k2.next hb3
  clear hb3 k2 hr2
  go_wp2_with fail
  have k4 := k3.box a a
  have hr4 := hr3.below (ba w3 (.cells #[.int .i64 a, .int .i64 a] 23))
  clear k3 hr3
  have hX : w.heap.size ≠ w3.heap.size := by have := k4.more; omega
  obtain ⟨kb, ks, km, kr0, kr1, kx0, kx1, kf0, kf1⟩ := id k4
  refine (valid_c _ _ _).mono ?_
  rintro e w5 ⟨rfl, hb5⟩
  rw [HV.out]
  have hr5 := hr4.below hb5
  have k5 := k4.next hb5
  clear hb5 k4 hr4
  clear kb ks km kr0 kr1 kx0 kx1 kf0 kf1
  obtain ⟨kb, ks, km, kr0, kr1, kx0, kx1, kf0, kf1⟩ := id k5
  go_wp2_with fail
  refine (format_c a a (by omega) (by omega) _ hr5).mono ?_
  rintro e w6 ⟨rfl, hb6⟩
  have k6 := k5.next hb6
  clear hb6 k5 hr5
  clear kb ks km kr0 kr1 kx0 kx1 kf0 kf1
  obtain ⟨kb, ks, km, kr0, kr1, kx0, kx1, kf0, kf1⟩ := id k6
  go_wp2_with fail
  exact bodyPost_ret (v := .tuple #[iv a a, .int .i64 0]) (by simp [results, Tryd.results26, go_sem, *]) rfl ⟨rfl, (by repeat' first | exact kb | refine Below.drew ?_ | refine Below.alloc ?_ ?_ _ | refine Below.setCell ?_ ?_ _ | omega | (simp; omega) | simp)⟩

set_option maxHeartbeats 1000000 in
theorem parse_two (a b : Int) (h : vld a b = true) (hne : ¬ a = b) (s : ByteArray) (hs : s.size ≤ 1000) (hf : s.data.toList = fmtIv a b) (w : World) (hr : Ready w) :
    Calls Tryd.prog 26 #[.string s] w fun e w' => e = ivE a b 0 ∧ Below w.heap.size w w' := by
  obtain ⟨a0, a1, a2⟩ := vld_iff.1 h
  have hc : Lib.cut s.data.toList (⟨#[46, 46]⟩ : ByteArray).data.toList = (Lib.itoa a, Lib.itoa b, true) := by rw [hf, fmt_two h hne, ← List.append_assoc]; exact cut_at (itoa46 a0)
  have hp : Lib.parseIntB 64 (⟨(Lib.itoa a).toArray⟩ : ByteArray).data.toList = .ok a := Dec.parseIntB_itoa 64 a (by decide) (by decide) (by simp; omega) (by simp; omega)
  have hp2 : Lib.parseIntB 64 (⟨(Lib.itoa b).toArray⟩ : ByteArray).data.toList = .ok b := Dec.parseIntB_itoa 64 b (by decide) (by decide) (by simp; omega) (by simp; omega)
  have hq : (!fmtIv a b == s.toList) = false := by rw [Lib.toList_data, hf]; simp
  have hsz := itoa_size a (by omega) (by omega)
  have hsz2 := itoa_size b (by omega) (by omega)
  have HC := Lib.hid hc
  have HP := Lib.hid hp
  have HP2 := Lib.hid hp2
  have HV := Lib.hid h
  clear hc hp hp2 hf h hne
  go_enter Tryd.func26, Tryd.ntmps26
  go_wp2_with fail
  have hr0 := hr.below (ba w (.cells #[.int .i64 0, .int .i64 0] 23))
  have k0 := P0.start w
  refine (cut_is s _ (by omega) HC.out _ hr0).mono ?_
  rintro e w1 ⟨rfl, hb1⟩
  have hr1 := hr0.below hb1
  have k1 := k0.next hb1
  clear hb1 k0 hr0
  go_wp2_with fail
  refine (parse64_ok _ (by omega) a HP.out _).mono ?_
  rintro e w2 ⟨rfl, hb2⟩
  have hr2 := hr1.below hb2
  have k2 := k1.next hb2
  clear hb2 k1 hr1
  go_wp2_with fail
  refine (parse64_ok _ (by omega) b HP2.out _).mono ?_
  rintro e w3 ⟨rfl, hb3⟩
  have hr3 := hr2.below hb3
  have k3 := k2.next hb3
  clear hb3 k2 hr2
  go_wp2_with fail
  have k4 := k3.box a b
  have hr4 := hr3.below (ba w3 (.cells #[.int .i64 a, .int .i64 b] 23))
  clear k3 hr3
  have hX : w.heap.size ≠ w3.heap.size := by have := k4.more; omega
  obtain ⟨kb, ks, km, kr0, kr1, kx0, kx1, kf0, kf1⟩ := id k4
  refine (valid_c _ _ _).mono ?_
  rintro e w5 ⟨rfl, hb5⟩
  rw [HV.out]
  have hr5 := hr4.below hb5
  have k5 := k4.next hb5
  clear hb5 k4 hr4
  clear kb ks km kr0 kr1 kx0 kx1 kf0 kf1
  obtain ⟨kb, ks, km, kr0, kr1, kx0, kx1, kf0, kf1⟩ := id k5
  go_wp2_with fail
  refine (format_c a b (by omega) (by omega) _ hr5).mono ?_
  rintro e w6 ⟨rfl, hb6⟩
  have k6 := k5.next hb6
  clear hb6 k5 hr5
  clear kb ks km kr0 kr1 kx0 kx1 kf0 kf1
  obtain ⟨kb, ks, km, kr0, kr1, kx0, kx1, kf0, kf1⟩ := id k6
  go_wp2_with fail
  exact bodyPost_ret (v := .tuple #[iv a b, .int .i64 0]) (by simp [results, Tryd.results26, go_sem, *]) rfl ⟨rfl, (by repeat' first | exact kb | refine Below.drew ?_ | refine Below.alloc ?_ ?_ _ | refine Below.setCell ?_ ?_ _ | omega | (simp; omega) | simp)⟩

set_option maxHeartbeats 2000000 in
theorem parse_noF (s : ByteArray) (hs : s.size ≤ 1000) (hf : ∀ a b : Int, vld a b = true → s.data.toList ≠ fmtIv a b) (l m : List UInt8) (hl : l.length ≤ 1000) (hm : m.length ≤ 1000) (hc : Lib.cut s.data.toList (⟨#[46, 46]⟩ : ByteArray).data.toList = (l, m, false)) (w : World) (hr : Ready w) :
    Calls Tryd.prog 26 #[.string s] w fun e w' => e = ivE 0 0 2 ∧ Below w.heap.size w w' := by
  have hsz : (⟨l.toArray⟩ : ByteArray).size ≤ 1000 := by simpa [ByteArray.size] using hl
  have hsz2 : (⟨m.toArray⟩ : ByteArray).size ≤ 1000 := by simpa [ByteArray.size] using hm
  have HC := Lib.hid hc
  have HF := Lib.hid hf
  clear hc hf
  by_cases hp : ∃ a, Lib.parseIntB 64 (⟨l.toArray⟩ : ByteArray).data.toList = .ok a
  · obtain ⟨a, hp⟩ := hp
    have hab := Lib.parseIntB_bounds hp
    have a0 : -9223372036854775808 ≤ a := by have := hab.1; simpa using this
    have a1 : a ≤ 9223372036854775807 := by have := hab.2; simp at this; omega
    have HP := Lib.hid hp
    clear hp hab
    by_cases hp2 : ∃ a, Lib.parseIntB 64 (⟨l.toArray⟩ : ByteArray).data.toList = .ok a
    · obtain ⟨b, hp2⟩ := hp2
      have HP2 := Lib.hid hp2
      clear hp2
      cases hv : vld a b
      · have HV := Lib.hid hv
        clear hv
        go_enter Tryd.func26, Tryd.ntmps26
        go_wp2_with fail
        have hr0 := hr.below (ba w (.cells #[.int .i64 0, .int .i64 0] 23))
        have k0 := P0.start w
        refine (cut_is s _ (by omega) HC.out _ hr0).mono ?_
        rintro e w1 ⟨rfl, hb1⟩
        have hr1 := hr0.below hb1
        have k1 := k0.next hb1
        clear hb1 k0 hr0
        go_wp2_with fail
        refine (parse64_ok _ (by omega) a HP.out _).mono ?_
        rintro e w2 ⟨rfl, hb2⟩
        have hr2 := hr1.below hb2
        have k2 := k1.next hb2
        clear hb2 k1 hr1
        go_wp2_with fail
        refine (parse64_ok _ (by omega) b HP2.out _).mono ?_
        rintro e w3 ⟨rfl, hb3⟩
        have hr3 := hr2.below hb3
        have k3 := k2.next hb3
        clear hb3 k2 hr2
        go_wp2_with fail
        have k4 := k3.box a b
        have hr4 := hr3.below (ba w3 (.cells #[.int .i64 a, .int .i64 b] 23))
        clear k3 hr3
        have hX : w.heap.size ≠ w3.heap.size := by have := k4.more; omega
        obtain ⟨kb, ks, km, kr0, kr1, kx0, kx1, kf0, kf1⟩ := id k4
        refine (valid_c _ _ _).mono ?_
        rintro e w5 ⟨rfl, hb5⟩
        rw [HV.out]
        have hr5 := hr4.below hb5
        have k5 := k4.next hb5
        clear hb5 k4 hr4
        clear kb ks km kr0 kr1 kx0 kx1 kf0 kf1
        obtain ⟨kb, ks, km, kr0, kr1, kx0, kx1, kf0, kf1⟩ := id k5
        go_wp2_with fail
        exact bodyPost_ret (v := .tuple #[iv 0 0, .int .i64 2]) (by simp [results, Tryd.results26, go_sem, *]) rfl ⟨rfl, (by repeat' first | exact kb | refine Below.drew ?_ | refine Below.alloc ?_ ?_ _ | refine Below.setCell ?_ ?_ _ | omega | (simp; omega) | simp)⟩
      · have hq : (!fmtIv a b == s.toList) = true := by
          have := HF.out a b hv
          rw [Lib.toList_data]; simpa using fun e => this e.symm
        obtain ⟨c0, c1, c2⟩ := vld_iff.1 hv
        have HV := Lib.hid hv
        clear hv
        go_enter Tryd.func26, Tryd.ntmps26
        go_wp2_with fail
        have hr0 := hr.below (ba w (.cells #[.int .i64 0, .int .i64 0] 23))
        have k0 := P0.start w
        refine (cut_is s _ (by omega) HC.out _ hr0).mono ?_
        rintro e w1 ⟨rfl, hb1⟩
        have hr1 := hr0.below hb1
        have k1 := k0.next hb1
        clear hb1 k0 hr0
        go_wp2_with fail
        refine (parse64_ok _ (by omega) a HP.out _).mono ?_
        rintro e w2 ⟨rfl, hb2⟩
        have hr2 := hr1.below hb2
        have k2 := k1.next hb2
        clear hb2 k1 hr1
        go_wp2_with fail
        refine (parse64_ok _ (by omega) b HP2.out _).mono ?_
        rintro e w3 ⟨rfl, hb3⟩
        have hr3 := hr2.below hb3
        have k3 := k2.next hb3
        clear hb3 k2 hr2
        go_wp2_with fail
        have k4 := k3.box a b
        have hr4 := hr3.below (ba w3 (.cells #[.int .i64 a, .int .i64 b] 23))
        clear k3 hr3
        have hX : w.heap.size ≠ w3.heap.size := by have := k4.more; omega
        obtain ⟨kb, ks, km, kr0, kr1, kx0, kx1, kf0, kf1⟩ := id k4
        refine (valid_c _ _ _).mono ?_
        rintro e w5 ⟨rfl, hb5⟩
        rw [HV.out]
        have hr5 := hr4.below hb5
        have k5 := k4.next hb5
        clear hb5 k4 hr4
        clear kb ks km kr0 kr1 kx0 kx1 kf0 kf1
        obtain ⟨kb, ks, km, kr0, kr1, kx0, kx1, kf0, kf1⟩ := id k5
        go_wp2_with fail
        refine (format_c a b (by omega) (by omega) _ hr5).mono ?_
        rintro e w6 ⟨rfl, hb6⟩
        have k6 := k5.next hb6
        clear hb6 k5 hr5
        clear kb ks km kr0 kr1 kx0 kx1 kf0 kf1
        obtain ⟨kb, ks, km, kr0, kr1, kx0, kx1, kf0, kf1⟩ := id k6
        go_wp2_with fail
        exact bodyPost_ret (v := .tuple #[iv 0 0, .int .i64 2]) (by simp [results, Tryd.results26, go_sem, *]) rfl ⟨rfl, (by repeat' first | exact kb | refine Below.drew ?_ | refine Below.alloc ?_ ?_ _ | refine Below.setCell ?_ ?_ _ | omega | (simp; omega) | simp)⟩
    · have HP2 : Hid (∀ v, Lib.parseIntB 64 (⟨l.toArray⟩ : ByteArray).data.toList ≠ .ok v) := Lib.hid fun v hv => hp2 ⟨v, hv⟩
      clear hp2
      go_enter Tryd.func26, Tryd.ntmps26
      go_wp2_with fail
      have hr0 := hr.below (ba w (.cells #[.int .i64 0, .int .i64 0] 23))
      have k0 := P0.start w
      refine (cut_is s _ (by omega) HC.out _ hr0).mono ?_
      rintro e w1 ⟨rfl, hb1⟩
      have hr1 := hr0.below hb1
      have k1 := k0.next hb1
      clear hb1 k0 hr0
      go_wp2_with fail
      refine (parse64_ok _ (by omega) a HP.out _).mono ?_
      rintro e w2 ⟨rfl, hb2⟩
      have hr2 := hr1.below hb2
      have k2 := k1.next hb2
      clear hb2 k1 hr1
      go_wp2_with fail
      refine (parse64_bad _ (by omega) HP2.out _ hr2).mono ?_
      rintro e w3 ⟨n3, N3, n30, n31, rfl, hb3⟩
      have hr3 := hr2.below hb3
      have k3 := k2.next hb3
      clear hb3 k2 hr2
      obtain ⟨kb, ks, kr0, kr1, kf0, kf1⟩ := id k3
      go_wp2_with fail
      exact bodyPost_ret (v := .tuple #[iv 0 0, .int .i64 2]) (by simp [results, Tryd.results26, go_sem, *]) rfl ⟨rfl, (by repeat' first | exact kb | refine Below.drew ?_ | refine Below.alloc ?_ ?_ _ | refine Below.setCell ?_ ?_ _ | omega | (simp; omega) | simp)⟩
  · have HP : Hid (∀ v, Lib.parseIntB 64 (⟨l.toArray⟩ : ByteArray).data.toList ≠ .ok v) := Lib.hid fun v hv => hp ⟨v, hv⟩
    clear hp
    by_cases hp2 : ∃ a, Lib.parseIntB 64 (⟨l.toArray⟩ : ByteArray).data.toList = .ok a
    · obtain ⟨b, hp2⟩ := hp2
      have HP2 := Lib.hid hp2
      clear hp2
      go_enter Tryd.func26, Tryd.ntmps26
      go_wp2_with fail
      have hr0 := hr.below (ba w (.cells #[.int .i64 0, .int .i64 0] 23))
      have k0 := P0.start w
      refine (cut_is s _ (by omega) HC.out _ hr0).mono ?_
      rintro e w1 ⟨rfl, hb1⟩
      have hr1 := hr0.below hb1
      have k1 := k0.next hb1
      clear hb1 k0 hr0
      go_wp2_with fail
      refine (parse64_bad _ (by omega) HP.out _ hr1).mono ?_
      rintro e w2 ⟨n2, N2, n20, n21, rfl, hb2⟩
      have hr2 := hr1.below hb2
      have k2 := k1.next hb2
      clear hb2 k1 hr1
      go_wp2_with fail
      refine (parse64_ok _ (by omega) b HP2.out _).mono ?_
      rintro e w3 ⟨rfl, hb3⟩
      have hr3 := hr2.below hb3
      have k3 := k2.next hb3
      clear hb3 k2 hr2
      obtain ⟨kb, ks, kr0, kr1, kf0, kf1⟩ := id k3
      go_wp2_with fail
      exact bodyPost_ret (v := .tuple #[iv 0 0, .int .i64 2]) (by simp [results, Tryd.results26, go_sem, *]) rfl ⟨rfl, (by repeat' first | exact kb | refine Below.drew ?_ | refine Below.alloc ?_ ?_ _ | refine Below.setCell ?_ ?_ _ | omega | (simp; omega) | simp)⟩
    · have HP2 : Hid (∀ v, Lib.parseIntB 64 (⟨l.toArray⟩ : ByteArray).data.toList ≠ .ok v) := Lib.hid fun v hv => hp2 ⟨v, hv⟩
      clear hp2
      go_enter Tryd.func26, Tryd.ntmps26
      go_wp2_with fail
      have hr0 := hr.below (ba w (.cells #[.int .i64 0, .int .i64 0] 23))
      have k0 := P0.start w
      refine (cut_is s _ (by omega) HC.out _ hr0).mono ?_
      rintro e w1 ⟨rfl, hb1⟩
      have hr1 := hr0.below hb1
      have k1 := k0.next hb1
      clear hb1 k0 hr0
      go_wp2_with fail
      refine (parse64_bad _ (by omega) HP.out _ hr1).mono ?_
      rintro e w2 ⟨n2, N2, n20, n21, rfl, hb2⟩
      have hr2 := hr1.below hb2
      have k2 := k1.next hb2
      clear hb2 k1 hr1
      go_wp2_with fail
      refine (parse64_bad _ (by omega) HP2.out _ hr2).mono ?_
      rintro e w3 ⟨n3, N3, n30, n31, rfl, hb3⟩
      have hr3 := hr2.below hb3
      have k3 := k2.next hb3
      clear hb3 k2 hr2
      obtain ⟨kb, ks, kr0, kr1, kf0, kf1⟩ := id k3
      go_wp2_with fail
      exact bodyPost_ret (v := .tuple #[iv 0 0, .int .i64 2]) (by simp [results, Tryd.results26, go_sem, *]) rfl ⟨rfl, (by repeat' first | exact kb | refine Below.drew ?_ | refine Below.alloc ?_ ?_ _ | refine Below.setCell ?_ ?_ _ | omega | (simp; omega) | simp)⟩

set_option maxHeartbeats 2000000 in
theorem parse_noT (s : ByteArray) (hs : s.size ≤ 1000) (hf : ∀ a b : Int, vld a b = true → s.data.toList ≠ fmtIv a b) (l m : List UInt8) (hl : l.length ≤ 1000) (hm : m.length ≤ 1000) (hc : Lib.cut s.data.toList (⟨#[46, 46]⟩ : ByteArray).data.toList = (l, m, true)) (w : World) (hr : Ready w) :
    Calls Tryd.prog 26 #[.string s] w fun e w' => e = ivE 0 0 2 ∧ Below w.heap.size w w' := by
  have hsz : (⟨l.toArray⟩ : ByteArray).size ≤ 1000 := by simpa [ByteArray.size] using hl
  have hsz2 : (⟨m.toArray⟩ : ByteArray).size ≤ 1000 := by simpa [ByteArray.size] using hm
  have HC := Lib.hid hc
  have HF := Lib.hid hf
  clear hc hf
  by_cases hp : ∃ a, Lib.parseIntB 64 (⟨l.toArray⟩ : ByteArray).data.toList = .ok a
  · obtain ⟨a, hp⟩ := hp
    have hab := Lib.parseIntB_bounds hp
    have a0 : -9223372036854775808 ≤ a := by have := hab.1; simpa using this
    have a1 : a ≤ 9223372036854775807 := by have := hab.2; simp at this; omega
    have HP := Lib.hid hp
    clear hp hab
    by_cases hp2 : ∃ a, Lib.parseIntB 64 (⟨m.toArray⟩ : ByteArray).data.toList = .ok a
    · obtain ⟨b, hp2⟩ := hp2
      have HP2 := Lib.hid hp2
      clear hp2
      cases hv : vld a b
      · have HV := Lib.hid hv
        clear hv
        go_enter Tryd.func26, Tryd.ntmps26
        go_wp2_with fail
        have hr0 := hr.below (ba w (.cells #[.int .i64 0, .int .i64 0] 23))
        have k0 := P0.start w
        refine (cut_is s _ (by omega) HC.out _ hr0).mono ?_
        rintro e w1 ⟨rfl, hb1⟩
        have hr1 := hr0.below hb1
        have k1 := k0.next hb1
        clear hb1 k0 hr0
        go_wp2_with fail
        refine (parse64_ok _ (by omega) a HP.out _).mono ?_
        rintro e w2 ⟨rfl, hb2⟩
        have hr2 := hr1.below hb2
        have k2 := k1.next hb2
        clear hb2 k1 hr1
        go_wp2_with fail
        refine (parse64_ok _ (by omega) b HP2.out _).mono ?_
        rintro e w3 ⟨rfl, hb3⟩
        have hr3 := hr2.below hb3
        have k3 := k2.next hb3
        clear hb3 k2 hr2
        go_wp2_with fail
        have k4 := k3.box a b
        have hr4 := hr3.below (ba w3 (.cells #[.int .i64 a, .int .i64 b] 23))
        clear k3 hr3
        have hX : w.heap.size ≠ w3.heap.size := by have := k4.more; omega
        obtain ⟨kb, ks, km, kr0, kr1, kx0, kx1, kf0, kf1⟩ := id k4
        refine (valid_c _ _ _).mono ?_
        rintro e w5 ⟨rfl, hb5⟩
        rw [HV.out]
        have hr5 := hr4.below hb5
        have k5 := k4.next hb5
        clear hb5 k4 hr4
        clear kb ks km kr0 kr1 kx0 kx1 kf0 kf1
        obtain ⟨kb, ks, km, kr0, kr1, kx0, kx1, kf0, kf1⟩ := id k5
        go_wp2_with fail
        exact bodyPost_ret (v := .tuple #[iv 0 0, .int .i64 2]) (by simp [results, Tryd.results26, go_sem, *]) rfl ⟨rfl, (by repeat' first | exact kb | refine Below.drew ?_ | refine Below.alloc ?_ ?_ _ | refine Below.setCell ?_ ?_ _ | omega | (simp; omega) | simp)⟩
      · have hq : (!fmtIv a b == s.toList) = true := by
          have := HF.out a b hv
          rw [Lib.toList_data]; simpa using fun e => this e.symm
        obtain ⟨c0, c1, c2⟩ := vld_iff.1 hv
        have HV := Lib.hid hv
        clear hv
        go_enter Tryd.func26, Tryd.ntmps26
        go_wp2_with fail
        have hr0 := hr.below (ba w (.cells #[.int .i64 0, .int .i64 0] 23))
        have k0 := P0.start w
        refine (cut_is s _ (by omega) HC.out _ hr0).mono ?_
        rintro e w1 ⟨rfl, hb1⟩
        have hr1 := hr0.below hb1
        have k1 := k0.next hb1
        clear hb1 k0 hr0
        go_wp2_with fail
        refine (parse64_ok _ (by omega) a HP.out _).mono ?_
        rintro e w2 ⟨rfl, hb2⟩
        have hr2 := hr1.below hb2
        have k2 := k1.next hb2
        clear hb2 k1 hr1
        go_wp2_with fail
        refine (parse64_ok _ (by omega) b HP2.out _).mono ?_
        rintro e w3 ⟨rfl, hb3⟩
        have hr3 := hr2.below hb3
        have k3 := k2.next hb3
        clear hb3 k2 hr2
        go_wp2_with fail
        have k4 := k3.box a b
        have hr4 := hr3.below (ba w3 (.cells #[.int .i64 a, .int .i64 b] 23))
        clear k3 hr3
        have hX : w.heap.size ≠ w3.heap.size := by have := k4.more; omega
        obtain ⟨kb, ks, km, kr0, kr1, kx0, kx1, kf0, kf1⟩ := id k4
        refine (valid_c _ _ _).mono ?_
        rintro e w5 ⟨rfl, hb5⟩
        rw [HV.out]
        have hr5 := hr4.below hb5
        have k5 := k4.next hb5
        clear hb5 k4 hr4
        clear kb ks km kr0 kr1 kx0 kx1 kf0 kf1
        obtain ⟨kb, ks, km, kr0, kr1, kx0, kx1, kf0, kf1⟩ := id k5
        go_wp2_with fail
        refine (format_c a b (by omega) (by omega) _ hr5).mono ?_
        rintro e w6 ⟨rfl, hb6⟩
        have k6 := k5.next hb6
        clear hb6 k5 hr5
        clear kb ks km kr0 kr1 kx0 kx1 kf0 kf1
        obtain ⟨kb, ks, km, kr0, kr1, kx0, kx1, kf0, kf1⟩ := id k6
        go_wp2_with fail
        exact bodyPost_ret (v := .tuple #[iv 0 0, .int .i64 2]) (by simp [results, Tryd.results26, go_sem, *]) rfl ⟨rfl, (by repeat' first | exact kb | refine Below.drew ?_ | refine Below.alloc ?_ ?_ _ | refine Below.setCell ?_ ?_ _ | omega | (simp; omega) | simp)⟩
    · have HP2 : Hid (∀ v, Lib.parseIntB 64 (⟨m.toArray⟩ : ByteArray).data.toList ≠ .ok v) := Lib.hid fun v hv => hp2 ⟨v, hv⟩
      clear hp2
      go_enter Tryd.func26, Tryd.ntmps26
      go_wp2_with fail
      have hr0 := hr.below (ba w (.cells #[.int .i64 0, .int .i64 0] 23))
      have k0 := P0.start w
      refine (cut_is s _ (by omega) HC.out _ hr0).mono ?_
      rintro e w1 ⟨rfl, hb1⟩
      have hr1 := hr0.below hb1
      have k1 := k0.next hb1
      clear hb1 k0 hr0
      go_wp2_with fail
      refine (parse64_ok _ (by omega) a HP.out _).mono ?_
      rintro e w2 ⟨rfl, hb2⟩
      have hr2 := hr1.below hb2
      have k2 := k1.next hb2
      clear hb2 k1 hr1
      go_wp2_with fail
      refine (parse64_bad _ (by omega) HP2.out _ hr2).mono ?_
      rintro e w3 ⟨n3, N3, n30, n31, rfl, hb3⟩
      have hr3 := hr2.below hb3
      have k3 := k2.next hb3
      clear hb3 k2 hr2
      obtain ⟨kb, ks, kr0, kr1, kf0, kf1⟩ := id k3
      go_wp2_with fail
      exact bodyPost_ret (v := .tuple #[iv 0 0, .int .i64 2]) (by simp [results, Tryd.results26, go_sem, *]) rfl ⟨rfl, (by repeat' first | exact kb | refine Below.drew ?_ | refine Below.alloc ?_ ?_ _ | refine Below.setCell ?_ ?_ _ | omega | (simp; omega) | simp)⟩
  · have HP : Hid (∀ v, Lib.parseIntB 64 (⟨l.toArray⟩ : ByteArray).data.toList ≠ .ok v) := Lib.hid fun v hv => hp ⟨v, hv⟩
    clear hp
    by_cases hp2 : ∃ a, Lib.parseIntB 64 (⟨m.toArray⟩ : ByteArray).data.toList = .ok a
    · obtain ⟨b, hp2⟩ := hp2
      have HP2 := Lib.hid hp2
      clear hp2
      go_enter Tryd.func26, Tryd.ntmps26
      go_wp2_with fail
      have hr0 := hr.below (ba w (.cells #[.int .i64 0, .int .i64 0] 23))
      have k0 := P0.start w
      refine (cut_is s _ (by omega) HC.out _ hr0).mono ?_
      rintro e w1 ⟨rfl, hb1⟩
      have hr1 := hr0.below hb1
      have k1 := k0.next hb1
      clear hb1 k0 hr0
      go_wp2_with fail
      refine (parse64_bad _ (by omega) HP.out _ hr1).mono ?_
      rintro e w2 ⟨n2, N2, n20, n21, rfl, hb2⟩
      have hr2 := hr1.below hb2
      have k2 := k1.next hb2
      clear hb2 k1 hr1
      go_wp2_with fail
      refine (parse64_ok _ (by omega) b HP2.out _).mono ?_
      rintro e w3 ⟨rfl, hb3⟩
      have hr3 := hr2.below hb3
      have k3 := k2.next hb3
      clear hb3 k2 hr2
      obtain ⟨kb, ks, kr0, kr1, kf0, kf1⟩ := id k3
      go_wp2_with fail
      exact bodyPost_ret (v := .tuple #[iv 0 0, .int .i64 2]) (by simp [results, Tryd.results26, go_sem, *]) rfl ⟨rfl, (by repeat' first | exact kb | refine Below.drew ?_ | refine Below.alloc ?_ ?_ _ | refine Below.setCell ?_ ?_ _ | omega | (simp; omega) | simp)⟩
    · have HP2 : Hid (∀ v, Lib.parseIntB 64 (⟨m.toArray⟩ : ByteArray).data.toList ≠ .ok v) := Lib.hid fun v hv => hp2 ⟨v, hv⟩
      clear hp2
      go_enter Tryd.func26, Tryd.ntmps26
      go_wp2_with fail
      have hr0 := hr.below (ba w (.cells #[.int .i64 0, .int .i64 0] 23))
      have k0 := P0.start w
      refine (cut_is s _ (by omega) HC.out _ hr0).mono ?_
      rintro e w1 ⟨rfl, hb1⟩
      have hr1 := hr0.below hb1
      have k1 := k0.next hb1
      clear hb1 k0 hr0
      go_wp2_with fail
      refine (parse64_bad _ (by omega) HP.out _ hr1).mono ?_
      rintro e w2 ⟨n2, N2, n20, n21, rfl, hb2⟩
      have hr2 := hr1.below hb2
      have k2 := k1.next hb2
      clear hb2 k1 hr1
      go_wp2_with fail
      refine (parse64_bad _ (by omega) HP2.out _ hr2).mono ?_
      rintro e w3 ⟨n3, N3, n30, n31, rfl, hb3⟩
      have hr3 := hr2.below hb3
      have k3 := k2.next hb3
      clear hb3 k2 hr2
      obtain ⟨kb, ks, kr0, kr1, kf0, kf1⟩ := id k3
      go_wp2_with fail
      exact bodyPost_ret (v := .tuple #[iv 0 0, .int .i64 2]) (by simp [results, Tryd.results26, go_sem, *]) rfl ⟨rfl, (by repeat' first | exact kb | refine Below.drew ?_ | refine Below.alloc ?_ ?_ _ | refine Below.setCell ?_ ?_ _ | omega | (simp; omega) | simp)⟩


theorem cut_le (s t : List UInt8) : (Lib.cut s t).1.length ≤ s.length ∧ (Lib.cut s t).2.1.length ≤ s.length := by
  unfold Lib.cut; split <;> simp; omega
theorem parse_yes (a b : Int) (h : vld a b = true) (s : ByteArray) (hs : s.size ≤ 1000) (hf : s.data.toList = fmtIv a b) (w : World) (hr : Ready w) :
    Calls Tryd.prog 26 #[.string s] w fun e w' => e = ivE a b 0 ∧ Below w.heap.size w w' := by
  by_cases e : a = b
  · subst e; exact parse_one a h s hs (by rw [hf, fmt_one h rfl]) w hr
  · exact parse_two a b h e s hs hf w hr
theorem parse_no (s : ByteArray) (hs : s.size ≤ 1000) (hf : ∀ a b : Int, vld a b = true → s.data.toList ≠ fmtIv a b) (w : World) (hr : Ready w) :
    Calls Tryd.prog 26 #[.string s] w fun e w' => e = ivE 0 0 2 ∧ Below w.heap.size w w' := by
  have hle := cut_le s.data.toList (⟨#[46, 46]⟩ : ByteArray).data.toList
  have hsz : s.data.toList.length = s.size := by simp
  obtain ⟨l, m, b, hc⟩ : ∃ l m b, Lib.cut s.data.toList (⟨#[46, 46]⟩ : ByteArray).data.toList = (l, m, b) := ⟨_, _, _, rfl⟩
  rw [hc, hsz] at hle
  cases b
  · exact parse_noF s hs hf l m (Nat.le_trans hle.1 hs) (Nat.le_trans hle.2 hs) hc w hr
  · exact parse_noT s hs hf l m (Nat.le_trans hle.1 hs) (Nat.le_trans hle.2 hs) hc w hr
end Go.Proofs.YtmihogccpgdpaaaDoor
