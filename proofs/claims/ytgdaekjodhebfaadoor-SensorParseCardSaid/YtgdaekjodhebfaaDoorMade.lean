/-
  made: a trace of a copy of the changes, when they are few and valid.
-/
import Derived.Test.YtgdaekjodhebfaaDoorNew
import Derived.Test.YtgdaekjodhebfaaDoorRef
namespace Go.Proofs.YtgdaekjodhebfaaDoor
open Go.RowKit

/-- what made answers -/
def MadeP (l : List (Int × Int)) (w : World) (e : Ending) (w' : World) : Prop := (if l.length ≤ 60 ∧ validL l = true then ∃ tp, e = .returned (.tuple #[.pointer (some ⟨tp, 0, none⟩), .bool true]) ∧ w.heap.size ≤ tp ∧ Trc w' tp l else e = .returned (.tuple #[.pointer none, .bool true])) ∧ Below w.heap.size w w'
set_option maxRecDepth 100000 in
set_option maxHeartbeats 1000000 in
theorem made_c (l : List (Int × Int)) (hlm : (l.length : Int) ≤ 9223372036854775807) (A : Option Addr) (cap : Nat) (w : World) (C : Chs w A l) : Calls Tryd.prog 10 #[.slice A l.length cap] w (MadeP l w) := by
  obtain ⟨i29, hi, hz0, hz1, hz2⟩ := info_parts info29
  by_cases h60 : l.length ≤ 60
  · have d60 : decide ((60 : Int) < (l.length : Int)) = false := by simp; omega
    have HC := Lib.hid C
    cases A with
    | none =>
      have e := C.none_nil
      subst e
      clear C
      have HP := Lib.hid (show ∀ e w', MadeP [] w e w' ↔ ((∃ tp, e = .returned (.tuple #[.pointer (some ⟨tp, 0, none⟩), .bool true]) ∧ w.heap.size ≤ tp ∧ Trc w' tp []) ∧ Below w.heap.size w w') from fun e w' => by unfold MadeP; rw [if_pos ⟨by simp, rfl⟩])
      have HW := Lib.hid (own_empty w 29 2)
      go_enter Tryd.func10, Tryd.ntmps10
      go_wp2_with fail
      refine (new_c [] (by simp) (some ⟨w.heap.size, 0, none⟩) 0 _ (Chs.nil _)).mono ?_
      rintro e w1 ⟨h1, hb1⟩
      rw [if_pos (show validL [] = true from rfl)] at h1
      obtain ⟨tp, rfl, htp, T⟩ := h1
      have HT := Lib.hid T
      have HC2 := Lib.hid (HC.out.next (bt (ba w (.cells #[] 29)) hb1))
      clear T
      go_wp2_with fail
      refine (changes_c [] (by simp) none cap _ HC2.out).mono ?_
      rintro e w2 ⟨A2, cap2, rfl, C2, hb2⟩
      go_wp2_with fail
      refine (rvalid_c [] (by simp) A2 cap2 _ C2).mono ?_
      rintro e w3 ⟨rfl, hb3⟩
      have hv : validL [] = true := rfl
      go_wp2_with fail
      go_ret2
      refine (HP.out _ _).2 ⟨⟨tp, rfl, Nat.le_trans (by simp) htp, (HT.out.next hb2).next hb3⟩, bt (bt (bt (ba w _) hb1) hb2) hb3⟩
    | some ad =>
      have hnews := (C.next (ba w (.cells #[] 29))).cells
      have HN := Lib.hid hnews
      have HW := Lib.hid (own_empty w 29 2)
      clear hnews C
      go_enter Tryd.func10, Tryd.ntmps10
      go_wp2_with (at_builtin; refine wpList_append_own _ rfl (.tmp 10) (.tmp 11) 22 rfl w.heap.size 29 i29 (.agg #[.int .i64 0, .int .i16 0]) 2 16 Tryd.underlying22 hi hz0 hz1 hz2 rfl (by decide) _ 0 [] rfl HW.out ad l.length cap (flat l) rfl (flat_len l) HN.out (flat_one l) (by unfold maxLen; omega) (by omega) (by simp) ?_; intro v1 w7 hown1 hgrow1 hnil1)
      have ho : w7.ownsRow w.heap.size 29 2 v1 l.length (flat l) := by simpa using hown1
      have k1 : Below w.heap.size w w7 := (ba w _).grown hgrow1 (by simp) (fun j hj => by have h2 : some w.heap.size = some j := hj; injection h2 with h2; omega)
      clear hown1 hgrow1 hnil1 HN HW
      obtain ⟨A', cap', rfl, -, C'⟩ := Chs.of_own ho
      clear ho
      refine (new_c l (by omega) A' cap' _ C').mono ?_
      rintro e w1 ⟨h1, hb1⟩
      by_cases hv : validL l = true
      · rw [if_pos hv] at h1
        obtain ⟨tp, rfl, htp, T⟩ := h1
        have HT := Lib.hid T
        have HC2 := Lib.hid (HC.out.next (bt k1 hb1))
        clear T
        go_wp2_with fail
        refine (changes_c l (by omega) (some ad) cap _ HC2.out).mono ?_
        rintro e w2 ⟨A2, cap2, rfl, C2, hb2⟩
        go_wp2_with fail
        refine (rvalid_c l (by omega) A2 cap2 _ C2).mono ?_
        rintro e w3 ⟨rfl, hb3⟩
        go_wp2_with fail
        go_ret2
        refine ⟨?_, bt (bt (bt k1 hb1) hb2) hb3⟩
        rw [if_pos ⟨h60, hv⟩]
        exact ⟨tp, rfl, Nat.le_trans k1.size htp, (HT.out.next hb2).next hb3⟩
      · rw [if_neg hv] at h1
        subst h1
        have HC2 := Lib.hid (HC.out.next (bt k1 hb1))
        go_wp2_with fail
        refine (changes_c l (by omega) (some ad) cap _ HC2.out).mono ?_
        rintro e w2 ⟨A2, cap2, rfl, C2, hb2⟩
        go_wp2_with fail
        refine (rvalid_c l (by omega) A2 cap2 _ C2).mono ?_
        rintro e w3 ⟨rfl, hb3⟩
        have hv' : validL l = false := by simpa using hv
        go_wp2_with fail
        go_ret2
        refine ⟨?_, bt (bt (bt k1 hb1) hb2) hb3⟩
        rw [if_neg (fun h => hv h.2)]
        rfl
  · have d60 : decide ((60 : Int) < (l.length : Int)) = true := by simp; omega
    have HF := Lib.hid (show ¬ (l.length ≤ 60 ∧ validL l = true) from fun h => h60 h.1)
    clear h60
    go_enter Tryd.func10, Tryd.ntmps10
    go_wp2_with fail
    go_ret2
    unfold MadeP
    rw [if_neg HF.out]
    exact ⟨rfl, Below.refl _ _⟩
end Go.Proofs.YtgdaekjodhebfaaDoor
