/-
  The walks in the frames' order of arguments.
-/
import Derived.LaidMore
import Derived.Test.YtgdaekjodhebfaaDoorWtwo
import Derived.Test.YtgdaekjodhebfaaDoorWthr
import Derived.Test.YtgdaekjodhebfaaDoorWfou
namespace Go.Proofs.YtgdaekjodhebfaaDoor
open Go.RowKit

theorem mx_of (W : World) (h : W.ShapedOpen Tryd.prog) : ∃ m, W.cell? ⟨0, 0, none⟩ = some (.int .i64 m) :=
  Go.Proofs.cell_of_shapedOpen_int (zero := #[.int .i64 0]) (t := 3) h (of_decide_eq_true (by kernel_rfl)) (by kernel_rfl) rfl (by kernel_rfl) (by kernel_rfl) Tryd.underlying3

theorem sensorNew_f (l : List (Int × Int)) (hlm : (l.length : Int) ≤ 9223372036854775807) (_hb : Bnd l) (w : World) (hr : Ready w) (A : Option Addr) (cap : Nat) (C : Chs w A l) : Calls Tryd.prog 6 #[.slice A l.length cap] w fun e w' => e = .returned (.bool true) ∧ Below w.heap.size w w' := sensorNew_w l hlm A cap w hr C
theorem sensorAt_f (l : List (Int × Int)) (time : Int) (hlm : (l.length : Int) ≤ 9223372036854775807) (_hb : Bnd l) (w : World) (hr : Ready w) (A : Option Addr) (cap : Nat) (C : Chs w A l) : Calls Tryd.prog 3 #[.slice A l.length cap, .int .i64 time] w fun e w' => e = .returned (.bool true) ∧ Below w.heap.size w w' := sensorAt_w l hlm time A cap w hr C
theorem sensorSteps_f (l : List (Int × Int)) (time : Int) (hlm : (l.length : Int) ≤ 9223372036854775807) (_hb : Bnd l) (w : World) (hr : Ready w) (A : Option Addr) (cap : Nat) (C : Chs w A l) : Calls Tryd.prog 4 #[.slice A l.length cap, .int .i64 time] w fun e w' => e = .returned (.bool true) ∧ Below w.heap.size w w' := sensorSteps_w l hlm time A cap w hr C
theorem sensorMerge_f (a b : List (Int × Int)) (time : Int) (ham : (a.length : Int) ≤ 9223372036854775807) (_ha : Bnd a) (hbm : (b.length : Int) ≤ 9223372036854775807) (_hb : Bnd b) (w : World) (hr : Ready w) (A : Option Addr) (ca : Nat) (CA : Chs w A a) (B : Option Addr) (cb : Nat) (CB : Chs w B b) : Calls Tryd.prog 5 #[.slice A a.length ca, .slice B b.length cb, .int .i64 time] w fun e w' => e = .returned (.bool true) ∧ Below w.heap.size w w' := sensorMerge_w a b ham hbm time A B ca cb w hr CA CB
theorem sensorCopies_f (l : List (Int × Int)) (hlm : (l.length : Int) ≤ 9223372036854775807) (_hb : Bnd l) (w : World) (hr : Ready w) (A : Option Addr) (cap : Nat) (C : Chs w A l) : Calls Tryd.prog 7 #[.slice A l.length cap] w fun e w' => e = .returned (.bool true) ∧ Below w.heap.size w w' := sensorCopies_w l hlm A cap w hr C
end Go.Proofs.YtgdaekjodhebfaaDoor
