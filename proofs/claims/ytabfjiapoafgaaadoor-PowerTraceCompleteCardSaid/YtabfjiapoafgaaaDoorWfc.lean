/-
  The walks in the frames' order of arguments: Complete.
-/
import Derived.Test.YtabfjiapoafgaaaDoorWfr
import Derived.Test.YtabfjiapoafgaaaDoorWco
namespace Go.Proofs.YtabfjiapoafgaaaDoor
open Go.RowKit

theorem powerTraceComplete_f (f m : Int) (es : List Int) (f0 : -9223372036854775808 ≤ f) (f1 : f ≤ 9223372036854775807) (m0 : -9223372036854775808 ≤ m) (m1 : m ≤ 9223372036854775807) (hel : (es.length : Int) ≤ 9223372036854775807) (hes : ∀ x ∈ es, 0 ≤ x ∧ x ≤ 255) (w : World) (hr : Ready w) (A : Option Addr) (cap : Nat) (C : Its .u8 w A es) : Calls Tryd.prog 8 #[.int .i64 f, .int .i64 m, .slice A es.length cap] w fun e w' => e = .returned (.bool true) ∧ Below w.heap.size w w' := powerTraceComplete_w f m ⟨f0, f1⟩ ⟨m0, m1⟩ es hel hes A cap w hr C
end Go.Proofs.YtabfjiapoafgaaaDoor
