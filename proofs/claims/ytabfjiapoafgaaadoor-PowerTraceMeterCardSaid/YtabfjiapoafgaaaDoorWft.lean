/-
  The walks in the frames' order of arguments: Meter.
-/
import Derived.Test.YtabfjiapoafgaaaDoorWfr
import Derived.Test.YtabfjiapoafgaaaDoorWmt
namespace Go.Proofs.YtabfjiapoafgaaaDoor
open Go.RowKit

theorem powerTraceMeter_f (l acts : List (Int × Int)) (hlm : (l.length : Int) ≤ 9223372036854775807) (_hl : InP l) (ham : (acts.length : Int) ≤ 9223372036854775807) (ha : InP acts) (w : World) (hr : Ready w) (A : Option Addr) (cap : Nat) (C : Prs w A l) (B : Option Addr) (cb : Nat) (D : Prs w B acts) : Calls Tryd.prog 10 #[.slice A l.length cap, .slice B acts.length cb] w fun e w' => e = .returned (.bool true) ∧ Below w.heap.size w w' := powerTraceMeter_w l acts hlm ham ha A B cap cb w hr C D
end Go.Proofs.YtabfjiapoafgaaaDoor
