/-
  The walks in the frames' order of arguments: Budget.
-/
import Derived.Test.YtabfjiapoafgaaaDoorWfr
import Derived.Test.YtabfjiapoafgaaaDoorWbu
import Derived.Test.YtabfjiapoafgaaaDoorOpenZ
namespace Go.Proofs.YtabfjiapoafgaaaDoor
open Go.RowKit

theorem powerTraceBudget_f (l : List (Int × Int)) (sp : List Int) (_hl : (l.length : Int) ≤ 9223372036854775807) (_hi : InP l) (hz : l.length ≤ 8796093022208) (hsm : (sp.length : Int) ≤ 9223372036854775807) (hsp : ∀ x ∈ sp, B64 x) (w : World) (hr : Ready w) (A : Option Addr) (cap : Nat) (C : Prs w A l) (B : Option Addr) (cb : Nat) (D : Its .i64 w B sp) : Calls Tryd.prog 5 #[.slice A l.length cap, .slice B sp.length cb] w fun e w' => e = .returned (.bool true) ∧ Below w.heap.size w w' := powerTraceBudget_w l sp hz hsm hsp A B cap cb w hr C D
end Go.Proofs.YtabfjiapoafgaaaDoor
