/-
  The walks in the frames' order of arguments.
-/
import Derived.LaidMore
import Derived.Test.YtdfconiahfdhbaaDoorWfo
namespace Go.Proofs.YtdfconiahfdhbaaDoor
open Go.RowKit

theorem mx_of (W : World) (h : W.ShapedOpen Tryd.prog) : ∃ m, W.cell? ⟨4, 0, none⟩ = some (.int .i64 m) :=
  Go.Proofs.cell_of_shapedOpen_int (zero := #[.int .i64 0]) (t := 3) h (of_decide_eq_true (by kernel_rfl)) (by kernel_rfl) rfl (by kernel_rfl) (by kernel_rfl) Tryd.underlying3
/-- what a row's list gives, flat -/
structure RdyF (w : World) : Prop where
  tab : Lib.TabIs Tryd.prog w "internal/strconv.uint64pow10" .u64 Lib.pow10Tab
  syn : ∃ te pe, w.var? Tryd.prog "strconv.ErrSyntax" = some #[.iface te pe]
  ran : ∃ te pe, w.var? Tryd.prog "strconv.ErrRange" = some #[.iface te pe]
  mx : ∃ m, w.cell? ⟨4, 0, none⟩ = some (.int .i64 m)
  k : KTab w
theorem RdyF.rdy {w : World} (h : RdyF w) : Rdy w := ⟨⟨h.tab, h.syn, h.ran, h.mx⟩, h.k⟩
theorem traceFormats_f (l : List Ev) (hlm : (l.length : Int) ≤ 9223372036854775807) (hb : InL l) (w : World) (hr : RdyF w) (A : Option Addr) (cap : Nat) (C : Evs w A l) : Calls Tryd.prog 3 #[.slice A l.length cap] w fun e w' => e = .returned (.bool true) ∧ Below w.heap.size w w' := traceFormats_w l hlm hb A cap w hr.rdy C
end Go.Proofs.YtdfconiahfdhbaaDoor
