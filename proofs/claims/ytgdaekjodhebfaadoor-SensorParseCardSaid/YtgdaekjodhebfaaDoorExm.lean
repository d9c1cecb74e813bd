/-
  examples: the example of the chapter holds.
-/
import Derived.Test.YtgdaekjodhebfaaDoorPrs
namespace Go.Proofs.YtgdaekjodhebfaaDoor
open Go.RowKit

def exL : List (Int × Int) := [(5, 20), (9, -3)]
theorem exS : (⟨#[53, 32, 50, 48, 10, 57, 32, 45, 51, 10]⟩ : ByteArray).data.toList = txt exL := by
  have h2 : Lib.decDigits 20 = [50, 48] := by rw [Dec.decDigits_big (by decide), Dec.decDigits_small (by decide)]; rfl
  have h5 : Lib.decDigits 5 = [53] := by rw [Dec.decDigits_small (by decide)]; rfl
  have h9 : Lib.decDigits 9 = [57] := by rw [Dec.decDigits_small (by decide)]; rfl
  have h3 : Lib.decDigits 3 = [51] := by rw [Dec.decDigits_small (by decide)]; rfl
  show [53, 32, 50, 48, 10, 57, 32, 45, 51, 10] = lineT (5, 20) ++ (lineT (9, -3) ++ [])
  unfold lineT
  rw [Dec.itoa_nonneg (by decide), Dec.itoa_nonneg (by decide), Dec.itoa_nonneg (by decide), Dec.itoa_neg (by decide)]
  show _ = Lib.decDigits 5 ++ [32] ++ Lib.decDigits 20 ++ [10] ++ (Lib.decDigits 9 ++ [32] ++ (45 :: Lib.decDigits 3) ++ [10] ++ [])
  rw [h2, h5, h9, h3]
  rfl
theorem exV : validL exL = true := by decide
theorem exB : InB exL := by
  intro x hx
  unfold exL at hx
  simp at hx
  rcases hx with rfl | rfl <;> exact ⟨⟨by decide, by decide⟩, ⟨by decide, by decide⟩⟩
theorem exParse {w w' : World} {e : Ending} (h : ParsesP (txt exL) w e w') : ∃ tp, e = .returned (.tuple #[.pointer (some ⟨tp, 0, none⟩), .int .i64 0, .int .i64 0]) ∧ Trc w' tp exL ∧ Below w.heap.size w w' := by
  obtain ⟨l, rest, hs, hin, hv, h, hb⟩ := h
  have hu := txt_uniq exL l [] [] rest exB hin (by rw [List.append_nil]; exact hs) exV hv (.inl rfl) (by
    rcases h with ⟨h, -⟩ | ⟨-, h, -⟩
    · exact .inl h
    · exact .inr h)
  obtain ⟨rfl, rfl⟩ := hu
  rcases h with ⟨-, tp, he, -, T⟩ | ⟨h, -⟩
  · exact ⟨tp, he, T, hb⟩
  · exact absurd rfl h
set_option maxRecDepth 100000 in
set_option maxHeartbeats 2000000 in
theorem examples_c (w : World) (hr : Ready w) : Calls Tryd.prog 11 #[] w fun e w' => e = .returned (.bool true) ∧ Below w.heap.size w w' := by
  have a4 : atL exL 4 = 0 := by decide
  have a5 : atL exL 5 = 20 := by decide
  have a8 : atL exL 8 = 20 := by decide
  have a9 : atL exL 9 = -3 := by decide
  have n5 : optV (nextL exL 5) = .tuple #[.agg #[.int .i64 9, .int .i16 (-3)], .bool true] := rfl
  have HE := Lib.hid (And.intro a4 (And.intro a5 (And.intro a8 (And.intro a9 n5))))
  clear a4 a5 a8 a9 n5
  go_enter Tryd.func11, Tryd.ntmps11
  go_wp2_with fail
  have hp := sparse_c ⟨#[53, 32, 50, 48, 10, 57, 32, 45, 51, 10]⟩ (by decide) w hr
  rw [exS] at hp
  refine hp.mono ?_
  intro e w1 h1
  obtain ⟨tp, rfl, T, hb1⟩ := exParse h1
  clear hp h1
  go_wp2_with fail
  refine (next_c exL (by decide) exV 5 tp _ T).mono ?_
  rintro e w2 ⟨rfl, hb2⟩
  rw [HE.out.2.2.2.2]
  replace T := T.next hb2
  have K := bt hb1 hb2
  clear hb1 hb2
  go_wp2_with fail
  have N := new_change w2 9 (-3) 29
  have hlt : w2.heap.size < (w2.alloc (.cells #[.int .i64 9, .int .i16 (-3)] 29)).heap.size := by simp
  replace T := T.next (ba w2 (.cells #[.int .i64 9, .int .i16 (-3)] 29))
  replace K := bt K (ba w2 (.cells #[.int .i64 9, .int .i16 (-3)] 29))
  generalize w2.alloc (.cells #[.int .i64 9, .int .i16 (-3)] 29) = W at *
  generalize w2.heap.size = X at *
  refine (at_c exL (by decide) exV 4 tp _ T).mono ?_
  rintro e w3 ⟨rfl, hb3⟩
  rw [HE.out.1]
  replace T := T.next hb3
  replace K := bt K hb3
  have n0 := ((bcell hb3).1 X 0 hlt).trans N.1
  have n1 := ((bcell hb3).1 X 1 hlt).trans N.2
  replace hlt := Nat.lt_of_lt_of_le hlt hb3.size
  clear hb3 N
  have HN := Lib.hid (And.intro n0 n1)
  clear n0 n1
  go_wp2_with fail
  refine (at_c exL (by decide) exV 5 tp _ T).mono ?_
  rintro e w4 ⟨rfl, hb4⟩
  rw [HE.out.2.1]
  replace T := T.next hb4
  replace K := bt K hb4
  have n0 := ((bcell hb4).1 X 0 hlt).trans HN.out.1
  have n1 := ((bcell hb4).1 X 1 hlt).trans HN.out.2
  replace hlt := Nat.lt_of_lt_of_le hlt hb4.size
  clear hb4 HN
  have HN := Lib.hid (And.intro n0 n1)
  clear n0 n1
  go_wp2_with fail
  refine (at_c exL (by decide) exV 8 tp _ T).mono ?_
  rintro e w5 ⟨rfl, hb5⟩
  rw [HE.out.2.2.1]
  replace T := T.next hb5
  replace K := bt K hb5
  have n0 := ((bcell hb5).1 X 0 hlt).trans HN.out.1
  have n1 := ((bcell hb5).1 X 1 hlt).trans HN.out.2
  replace hlt := Nat.lt_of_lt_of_le hlt hb5.size
  clear hb5 HN
  have HN := Lib.hid (And.intro n0 n1)
  clear n0 n1
  go_wp2_with fail
  refine (at_c exL (by decide) exV 9 tp _ T).mono ?_
  rintro e w6 ⟨rfl, hb6⟩
  rw [HE.out.2.2.2.1]
  replace K := bt K hb6
  have n0 := ((bcell hb6).1 X 0 hlt).trans HN.out.1
  have n1 := ((bcell hb6).1 X 1 hlt).trans HN.out.2
  go_wp2_with fail
  go_ret
  exact ⟨rfl, K⟩
end Go.Proofs.YtgdaekjodhebfaaDoor
