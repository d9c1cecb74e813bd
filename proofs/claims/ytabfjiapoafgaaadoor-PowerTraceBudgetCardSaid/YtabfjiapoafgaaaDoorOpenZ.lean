/-
  The length of a slice that is an argument, by the bound on its bytes.
-/
import Derived.SizedLaws
import Derived.Test.YtabfjiapoafgaaaDoorOpenL
namespace Go.Proofs.YtabfjiapoafgaaaDoor
open Go.ChangeShapes Go.WideShapes Go.RowKit Go.Deep
set_option linter.unusedVariables false

theorem len_sized {H : Type} {enc : TypeId × Value → H} {P : Program} {w : World} {base : Nat} {spare : Nat → Bool} {held : Bool} {ts : List TypeId} {ds : List (DataW H)} {t e : TypeId} {A : Option Addr} {len cap : Nat} {d : DataW H} {p : List MemPlace}
    (ht : P.underlying t = some (.slice e)) (h : DataW.Trod enc P w base spare held t (.slice A len cap) d p) (hs : (DataW.weightsEach P ts ds).all (· ≤ reachBytes) = true) {j : Nat} (hj : ts[j]? = some t) (hd : ds[j]? = some d) : len * P.bytesOf e ≤ reachBytes := by
  obtain ⟨fuel, hf⟩ := h
  rcases open_slice ht hf with ⟨h1, -⟩ | ⟨a, len', cap', m, n, D, Pl, hcs, -, -, -, -, hx, -⟩
  · simp [Value.cells] at h1
    obtain ⟨rfl, rfl, rfl⟩ := h1
    omega
  · simp [Value.cells] at hcs
    obtain ⟨rfl, rfl, rfl⟩ := hcs
    have hd' := (Prod.ext_iff.1 hx).1
    simp only at hd'
    rw [hd'] at hd
    have := sized_slice hs hj hd ht
    rw [List.length_map, List.length_range] at this
    exact Nat.le_trans (Nat.mul_le_mul_right _ (Nat.le_add_right _ _)) this
set_option maxRecDepth 100000 in
theorem len_periods {H : Type} {enc : TypeId × Value → H} {w : World} {base : Nat} {spare : Nat → Bool} {held : Bool} {ts : List TypeId} {ds : List (DataW H)} {A : Option Addr} {len cap : Nat} {d : DataW H} {p : List MemPlace}
    (h : DataW.Trod enc Tryd.prog w base spare held 22 (.slice A len cap) d p) (hs : (DataW.weightsEach Tryd.prog ts ds).all (· ≤ reachBytes) = true) {j : Nat} (hj : ts[j]? = some 22) (hd : ds[j]? = some d) : len ≤ 8796093022208 := by
  have h1 := len_sized Tryd.underlying22 h hs hj hd
  have h2 : Tryd.prog.bytesOf 38 = 16 := by kernel_rfl
  rw [h2] at h1
  have := reachBytes_lt
  omega
end Go.Proofs.YtabfjiapoafgaaaDoor
