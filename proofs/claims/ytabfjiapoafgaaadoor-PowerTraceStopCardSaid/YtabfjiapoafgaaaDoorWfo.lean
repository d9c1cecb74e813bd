/-
  The walks in the frames' order of arguments: Stop.
-/
import Derived.Test.YtabfjiapoafgaaaDoorWfr
import Derived.Test.YtabfjiapoafgaaaDoorWst
namespace Go.Proofs.YtabfjiapoafgaaaDoor
open Go.RowKit

theorem powerTraceStop_f (f m n : Int) (f0 : -9223372036854775808 ≤ f) (f1 : f ≤ 9223372036854775807) (m0 : -9223372036854775808 ≤ m) (m1 : m ≤ 9223372036854775807) (n0 : 0 ≤ n) (n1 : n ≤ 255) (w : World) (hr : Ready w) : Calls Tryd.prog 9 #[.int .i64 f, .int .i64 m, .int .u8 n] w fun e w' => e = .returned (.bool true) ∧ Below w.heap.size w w' := powerTraceStop_w f m n ⟨f0, f1⟩ ⟨m0, m1⟩ n0 n1 w hr
end Go.Proofs.YtabfjiapoafgaaaDoor
