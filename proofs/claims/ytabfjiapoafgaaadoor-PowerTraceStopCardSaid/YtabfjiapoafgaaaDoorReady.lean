/-
  Out of what a row lists ('laid') to what the walks need of the world ('Ready').
-/
import Derived.Test.YtabfjiapoafgaaaDoorBase
import Derived.Test.YtabfjiapoafgaaaDoorRows
import Derived.Lib.LaidTab
import Derived.Stop.LaidErr
import Derived.LaidMore
import Derived.ProofKit
import Derived.LaidEql
namespace Go.Proofs.YtabfjiapoafgaaaDoor
open Go.ChangeShapes Go.WideShapes Go.ChangeAt Go.RowKit

theorem gPowType : (Tryd.prog.globals[3]?).map (·.type) = some 141 := by kernel_rfl
theorem gSynType : (Tryd.prog.globals[1]?).map (·.type) = some 74 := by kernel_rfl
theorem gRanType : (Tryd.prog.globals[2]?).map (·.type) = some 74 := by kernel_rfl
theorem cellsPow : Tryd.prog.cellsOf 141 = 20 := by kernel_rfl
theorem cellsU64 : Tryd.prog.cellsOf 107 = 1 := by kernel_rfl
theorem cellsErr : Tryd.prog.cellsOf 147 = 1 := by kernel_rfl
theorem cellsStr : Tryd.prog.cellsOf 9 = 1 := by kernel_rfl
theorem star : "*" ++ "errors.errorString" = "*errors.errorString" := by decide
/-- the one type of that name -/
theorem rowErr (u : TypeId) (h : Tryd.prog.typeName? 3 u = some "*errors.errorString") : u = 145 :=
  typeName_ptr_named (nm := "errors.errorString") (by rw [star]; kernel_rfl) (by kernel_rfl) (by decide) u (by rw [star]; exact h)
theorem powData : (Rows.laid_internal_strconv_uint64pow10 : DataW Unit) = Lib.tabData .u64 Lib.pow10Tab := by kernel_rfl

theorem tab_of {W : World} {r : List (String × DataW Unit)} (h : laidMet Tryd.prog (("internal/strconv.uint64pow10", Rows.laid_internal_strconv_uint64pow10) :: r) W) : Lib.TabIs Tryd.prog W "internal/strconv.uint64pow10" .u64 Lib.pow10Tab := by
  rw [powData] at h
  exact Lib.tabIs_of_head gPow gPowType Tryd.underlying141 Tryd.underlying107 cellsU64 cellsPow h
theorem syn_of {W : World} {r : List (String × DataW Unit)} (h : laidMet Tryd.prog (("strconv.ErrSyntax", Rows.laid_strconv_ErrSyntax) :: r) W) : ∃ te pe, W.var? Tryd.prog "strconv.ErrSyntax" = some #[.iface te pe] := by
  obtain ⟨a0, s0, hv0, -, -, -⟩ := laid_sentinel h gSyn gSynType Tryd.underlying74 rowErr Tryd.underlying145 Tryd.underlying147 rfl rfl Tryd.underlying9 cellsErr cellsStr
  exact ⟨_, _, hv0⟩
theorem ran_of {W : World} {r : List (String × DataW Unit)} (h : laidMet Tryd.prog (("strconv.ErrRange", Rows.laid_strconv_ErrRange) :: r) W) : ∃ te pe, W.var? Tryd.prog "strconv.ErrRange" = some #[.iface te pe] := by
  obtain ⟨a0, s0, hv0, -, -, -⟩ := laid_sentinel h gRan gRanType Tryd.underlying74 rowErr Tryd.underlying145 Tryd.underlying147 rfl rfl Tryd.underlying9 cellsErr cellsStr
  exact ⟨_, _, hv0⟩
end Go.Proofs.YtabfjiapoafgaaaDoor
