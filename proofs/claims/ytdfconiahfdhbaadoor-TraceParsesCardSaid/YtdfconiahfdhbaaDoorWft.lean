/-
  More walks in the frames' order of arguments.
-/
import Derived.Test.YtdfconiahfdhbaaDoorWfr
import Derived.Test.YtdfconiahfdhbaaDoorWpa
namespace Go.Proofs.YtdfconiahfdhbaaDoor
open Go.RowKit

theorem traceParses_f (s : ByteArray) (hs : s.size ≤ 140737488351232) (w : World) (hr : RdyF w) : Calls Tryd.prog 4 #[.string s] w fun e w' => e = .returned (.bool true) ∧ Below w.heap.size w w' := traceParses_w s hs w hr.rdy
end Go.Proofs.YtdfconiahfdhbaaDoor
