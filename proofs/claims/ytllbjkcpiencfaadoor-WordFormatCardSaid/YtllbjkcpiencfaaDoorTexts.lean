/-
  The walks of WordBytes, WordFormat, WordParse.
-/
import Derived.Test.YtllbjkcpiencfaaDoorExamples
import Derived.Test.YtllbjkcpiencfaaDoorRefParse2
import Derived.Lib.ItoaLen
import Derived.Deep.RegionHeld3
import Derived.Laws.Rows
import Derived.Outline
namespace Go.Proofs.YtllbjkcpiencfaaDoor
open Go.RowKit

theorem itoa_len (n : Int) (h0 : -9223372036854775808 ≤ n) (h1 : n ≤ 9223372036854775807) : (⟨(Lib.itoa n).toArray⟩ : ByteArray).size ≤ 140737488351232 := by
  have := Lib.itoa_length_le n h0 h1
  have e : (⟨(Lib.itoa n).toArray⟩ : ByteArray).size = (Lib.itoa n).length := by simp [ByteArray.size]
  omega

theorem below3 {w a b c : World} (h1 : Below w.heap.size w a) (h2 : Below a.heap.size a b) (h3 : Below b.heap.size b c) : Below w.heap.size w c :=
  h1.trans ((h2.trans (h3.mono h2.size)).mono h1.size)

theorem format_w (a : Int) (h0 : -32768 ≤ a) (h1 : a ≤ 32767) (w : World) (hr : Ready w) :
    Calls Tryd.prog 7 #[.int .i16 a] w fun e w' => e = .returned (.bool true) ∧ Below w.heap.size w w' := by
  go_enter Tryd.func7, Tryd.ntmps7
  go_wp2_with fail
  refine (format_c a h0 h1 _ hr).mono ?_
  rintro e w1 ⟨rfl, hb1⟩
  have hr1 := hr.below hb1
  go_wp2_with fail
  refine (parse_yes a h0 h1 _ (itoa_len a (by omega) (by omega)) rfl _ hr1).mono ?_
  rintro e w2 ⟨rfl, hb2⟩
  have hr2 := hr1.below hb2
  go_wp2_with fail
  refine (examples_c _ hr2).mono ?_
  rintro e w3 ⟨rfl, hb3⟩
  go_wp2_with fail
  refine (rformat_c a h0 h1 _).mono ?_
  rintro e w4 ⟨rfl, hb4⟩
  go_wp2_with fail
  go_ret
  exact ⟨rfl, below3 hb1 hb2 (hb3.trans (hb4.mono hb3.size))⟩

theorem parse_w (s : ByteArray) (hs : s.size ≤ 140737488351232) (w : World) (hr : Ready w) :
    Calls Tryd.prog 8 #[.string s] w fun e w' => e = .returned (.bool true) ∧ Below w.heap.size w w' := by
  by_cases h : ∃ n : Int, -32768 ≤ n ∧ n ≤ 32767 ∧ s.data.toList = Lib.itoa n
  · obtain ⟨n, h0, h1, h⟩ := h
    have hq : (Lib.itoa n == s.toList) = true := by rw [Lib.toList_data, h]; simp
    have H := Lib.hid h
    clear h
    go_enter Tryd.func8, Tryd.ntmps8
    go_wp2_with fail
    refine (parse_yes n h0 h1 _ hs H.out _ hr).mono ?_
    rintro e w1 ⟨rfl, hb1⟩
    have hr1 := hr.below hb1
    go_wp2_with fail
    refine (rparse_yes n h0 h1 _ hs H.out _).mono ?_
    rintro e w2 ⟨rfl, hb2⟩
    have hr2 := hr1.below hb2
    go_wp2_with fail
    refine (examples_c _ hr2).mono ?_
    rintro e w3 ⟨rfl, hb3⟩
    have hr3 := hr2.below hb3
    go_wp2_with fail
    refine (format_c n h0 h1 _ hr3).mono ?_
    rintro e w4 ⟨rfl, hb4⟩
    go_wp2_with fail
    go_ret
    exact ⟨rfl, below3 hb1 hb2 (hb3.trans (hb4.mono hb3.size))⟩
  · have h' : ∀ n : Int, -32768 ≤ n → n ≤ 32767 → s.data.toList ≠ Lib.itoa n := fun n h0 h1 e => h ⟨n, h0, h1, e⟩
    have H := Lib.hid h'
    clear h h'
    go_enter Tryd.func8, Tryd.ntmps8
    go_wp2_with fail
    refine (parse_no _ hs H.out _ hr).mono ?_
    rintro e w1 ⟨rfl, hb1⟩
    have hr1 := hr.below hb1
    go_wp2_with fail
    refine (rparse_no _ hs H.out _).mono ?_
    rintro e w2 ⟨rfl, hb2⟩
    have hr2 := hr1.below hb2
    go_wp2_with fail
    refine (examples_c _ hr2).mono ?_
    rintro e w3 ⟨rfl, hb3⟩
    go_wp2_with fail
    go_ret
    exact ⟨rfl, below3 hb1 hb2 hb3⟩

/-- what the walk of WordBytes holds of the world: the boxed argument's two cells -/
structure Kept (w : World) (x y : Int) (W : World) : Prop where
  ready : Ready W
  below : Below w.heap.size w W
  size : w.heap.size < W.heap.size
  c0 : W.cell? ⟨w.heap.size, 0, none⟩ = some (.int .u8 x)
  c1 : W.cell? ⟨w.heap.size, 1, none⟩ = some (.int .u8 y)
theorem Kept.next {w W W' : World} {x y : Int} (h : Kept w x y W) (hb : Below W.heap.size W W') : Kept w x y W' :=
  ⟨h.ready.below hb, h.below.trans (hb.mono h.below.size), Nat.lt_of_lt_of_le h.size hb.size, (hb.cell (p := ⟨w.heap.size, 0, none⟩) h.size).trans h.c0, (hb.cell (p := ⟨w.heap.size, 1, none⟩) h.size).trans h.c1⟩

set_option maxHeartbeats 2000000 in
theorem bytes_w (a x y : Int) (h0 : -32768 ≤ a) (h1 : a ≤ 32767) (hx0 : 0 ≤ x) (hx1 : x ≤ 255) (hy0 : 0 ≤ y) (hy1 : y ≤ 255) (w : World) (hr : Ready w) :
    Calls Tryd.prog 6 #[.int .i16 a, .agg #[.int .u8 x, .int .u8 y]] w fun e w' => e = .returned (.bool true) ∧ Below w.heap.size w w' := by
  have g1 : IntKind.i16.wrap (a % 256 + 256 * (a % 65536 / 256)) = a := by rw [wrap_i16]; omega
  have g2 : (IntKind.i16.wrap (x + 256 * y)) % 256 = x := by rw [wrap_i16]; omega
  have g3 : (IntKind.i16.wrap (x + 256 * y)) % 65536 / 256 = y := by rw [wrap_i16]; omega
  go_enter Tryd.func6, Tryd.ntmps6
  go_wp2_with fail
  have bw : Below w.heap.size w (w.alloc (.cells #[.int .u8 x, .int .u8 y] 35)) := (Below.refl _ _).alloc (Nat.le_refl _) _
  have k0 : Kept w x y (w.alloc (.cells #[.int .u8 x, .int .u8 y] 35)) := ⟨hr.below bw, bw, by simp, by simp [World.cell?_alloc_new], by simp [World.cell?_alloc_new]⟩
  generalize w.alloc (.cells #[.int .u8 x, .int .u8 y] 35) = W at *
  clear bw
  have k1 : Kept w x y W.drew := k0.next (Below.refl _ _).drew
  go_region_held3 (fun w' => w'.cell? ⟨w.heap.size, 0, none⟩ = some (.int .u8 x) ∧ w'.cell? ⟨w.heap.size, 1, none⟩ = some (.int .u8 y) ∧ Kept w x y w') (first | exact ⟨k1.c0, k1.c1, k1⟩ | exact ⟨k0.c0, k0.c1, k0⟩ | go_keep)
    (first | (go_at_call 11; refine (examples_c _ k1.ready).mono ?_; rintro e w1 ⟨rfl, hb1⟩; replace k1 := k1.next hb1) | (go_at_call 24; refine (put_c _ _).mono ?_; rintro e w1 ⟨rfl, hb1⟩; replace k1 := k1.next hb1) | (go_at_call 25; refine (rput_c _ h0 h1 _).mono ?_; rintro e w1 ⟨rfl, hb1⟩; replace k1 := k1.next hb1) | (go_at_call 26; refine (get_c _ _ (by omega) (by omega) (by omega) (by omega) _).mono ?_; rintro e w1 ⟨rfl, hb1⟩; replace k1 := k1.next hb1) | (go_at_call 27; refine (rget_c _ _ (by omega) (by omega) (by omega) (by omega) _).mono ?_; rintro e w1 ⟨rfl, hb1⟩; replace k1 := k1.next hb1))
  go_wp2_with fail
  go_ret
  exact ⟨rfl, k1.below⟩
end Go.Proofs.YtllbjkcpiencfaaDoor
