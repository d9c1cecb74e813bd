/-
  trickleref01's Wrap: the 16-bit wrap.
-/
import Derived.Test.YtllbjkcpiencfaaDoorBase
import Derived.Test.YtllbjkcpiencfaaDoorAid
import Derived.Outline
import Derived.IntWalk
namespace Go.Proofs.YtllbjkcpiencfaaDoor
open Go.RowKit

theorem wrap_c (m : Int) (h0 : -4611686018427387904 ≤ m) (h1 : m ≤ 4611686018427387904) (w : World) :
    Calls Tryd.prog 13 #[.int .i64 m] w fun e w' => e = .returned (.int .i16 (IntKind.i16.wrap m)) ∧ w = w' := by
  have hm : (0 ≤ m ∧ m.tmod 65536 = m % 65536) ∨ (m < 0 ∧ m.tmod 65536 = -((-m) % 65536)) := by
    by_cases h : 0 ≤ m
    · exact .inl ⟨h, tmod_nonneg h _⟩
    · exact .inr ⟨by omega, tmod_neg (by omega) _⟩
  have b1 : -65535 ≤ m.tmod 65536 := by omega
  have b2 : m.tmod 65536 ≤ 65535 := by omega
  have HM := Lib.hid hm
  clear hm
  go_enter Tryd.func13, Tryd.ntmps13
  go_wp2_with fail
  all_goals go_ret
  all_goals (have hm := HM.out; refine ⟨ret_int ?_, rfl⟩; simp only [wrap_i16]; omega)
end Go.Proofs.YtllbjkcpiencfaaDoor
