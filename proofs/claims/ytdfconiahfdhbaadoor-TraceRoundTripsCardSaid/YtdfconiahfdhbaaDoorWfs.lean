/-
  More walks in the frames' order of arguments.
-/
import Derived.Test.YtdfconiahfdhbaaDoorWfr
import Derived.Test.YtdfconiahfdhbaaDoorWrt
namespace Go.Proofs.YtdfconiahfdhbaaDoor
open Go.RowKit

theorem traceRoundTrips_f (l : List Ev) (s : ByteArray) (hlm : (l.length : Int) ≤ 9223372036854775807) (hb : InL l) (hs : s.size ≤ 140737488351232) (w : World) (hr : RdyF w) (A : Option Addr) (cap : Nat) (C : Evs w A l) : Calls Tryd.prog 5 #[.slice A l.length cap, .string s] w fun e w' => e = .returned (.bool true) ∧ Below w.heap.size w w' := traceRoundTrips_w l s hb A cap w hr.rdy hlm hs C
end Go.Proofs.YtdfconiahfdhbaaDoor
