/-
  The walks in the frames' order of arguments: Format.
-/
import Derived.LaidMore
import Derived.Test.YtabfjiapoafgaaaDoorWfm
namespace Go.Proofs.YtabfjiapoafgaaaDoor
open Go.RowKit

theorem mx_of (W : World) (h : W.ShapedOpen Tryd.prog) : ∃ m, W.cell? ⟨0, 0, none⟩ = some (.int .i64 m) :=
  Go.Proofs.cell_of_shapedOpen_int (zero := #[.int .i64 0]) (t := 3) h (of_decide_eq_true (by kernel_rfl)) (by kernel_rfl) rfl (by kernel_rfl) (by kernel_rfl) Tryd.underlying3
theorem powerTraceFormat_f (l : List (Int × Int)) (hlm : (l.length : Int) ≤ 9223372036854775807) (_hb : InP l) (w : World) (hr : Ready w) (A : Option Addr) (cap : Nat) (C : Prs w A l) : Calls Tryd.prog 3 #[.slice A l.length cap] w fun e w' => e = .returned (.bool true) ∧ Below w.heap.size w w' := powerTraceFormat_w l hlm A cap w hr C
end Go.Proofs.YtabfjiapoafgaaaDoor
