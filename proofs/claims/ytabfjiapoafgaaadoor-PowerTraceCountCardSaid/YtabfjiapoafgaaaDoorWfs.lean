/-
  The walks in the frames' order of arguments: All, Count.
-/
import Derived.Test.YtabfjiapoafgaaaDoorWfr
import Derived.Test.YtabfjiapoafgaaaDoorWall
namespace Go.Proofs.YtabfjiapoafgaaaDoor
open Go.RowKit

theorem powerTraceAll_f (f m o : Int) (f0 : -9223372036854775808 ≤ f) (f1 : f ≤ 9223372036854775807) (m0 : -9223372036854775808 ≤ m) (m1 : m ≤ 9223372036854775807) (o0 : -9223372036854775808 ≤ o) (o1 : o ≤ 9223372036854775807) (w : World) (hr : Ready w) : Calls Tryd.prog 6 #[.int .i64 f, .int .i64 m, .int .i64 o] w fun e w' => e = .returned (.bool true) ∧ Below w.heap.size w w' := powerTraceAll_w f m o ⟨f0, f1⟩ ⟨m0, m1⟩ ⟨o0, o1⟩ w hr
theorem powerTraceCount_f (f m : Int) (f0 : -9223372036854775808 ≤ f) (f1 : f ≤ 9223372036854775807) (m0 : -9223372036854775808 ≤ m) (m1 : m ≤ 9223372036854775807) (w : World) (hr : Ready w) : Calls Tryd.prog 7 #[.int .i64 f, .int .i64 m] w fun e w' => e = .returned (.bool true) ∧ Below w.heap.size w w' := powerTraceCount_w f m ⟨f0, f1⟩ ⟨m0, m1⟩ w hr
end Go.Proofs.YtabfjiapoafgaaaDoor
