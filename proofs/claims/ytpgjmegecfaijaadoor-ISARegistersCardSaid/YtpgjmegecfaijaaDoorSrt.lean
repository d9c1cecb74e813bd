/-
  Lists of numbers in memory, sorted and without duplicates: slices.Sort, slices.Compact, isa.registers, trickleref11.Same.
-/
import Derived.Test.YtpgjmegecfaijaaDoorWakes
import Derived.Test.YtpgjmegecfaijaaDoorShelfS
import Derived.Sort.OwnSortedInts
import Derived.Lib.OwnBridge
import Derived.Laws.AppendOwn
namespace Go.Proofs.YtpgjmegecfaijaaDoor
open Go.RowKit Go.Sort

/-- two numbers in order, once if they are equal -/
def two (x y : Int) : List Int := if x < y then [x, y] else if x = y then [x] else [y, x]
theorem srt_one (x : Int) : Lib.compact ([x].mergeSort fun x y => decide (x ≤ y)) = [x] := by
  rw [List.mergeSort_singleton]; rfl
theorem cpt_two (x y : Int) : Lib.compact [x, y] = if x = y then [x] else [x, y] := by
  by_cases h : x = y
  · subst h; simp [Lib.compact, Lib.compactUpTo, List.range_succ, Lib.keeps]
  · have h' : ¬ y = x := fun e => h e.symm
    simp [Lib.compact, Lib.compactUpTo, List.range_succ, Lib.keeps, h, h']
theorem msrt_two (x y : Int) : ([x, y].mergeSort fun x y => decide (x ≤ y)) = if x ≤ y then [x, y] else [y, x] := by
  by_cases h : x ≤ y <;> simp [List.mergeSort, List.MergeSort.Internal.splitInTwo, h]
theorem srt_two (x y : Int) : Lib.compact ([x, y].mergeSort fun x y => decide (x ≤ y)) = two x y := by
  rw [msrt_two]
  unfold two
  by_cases h : x < y
  · rw [if_pos (by omega), if_pos h, cpt_two, if_neg (by omega)]
  · rw [if_neg h]
    by_cases h2 : x = y
    · rw [if_pos (by omega), if_pos h2, cpt_two, if_pos h2]
    · rw [if_neg (by omega), if_neg h2, cpt_two, if_neg (by omega)]

theorem grown_ahead {w w1 : World} {n : Nat} {row : Option Nat} (h : (Sort.ahead w n).grownBy w1 row) : w.grownBy w1 row := ⟨h.os, h.tape, h.output, h.size, h.block⟩
theorem sort_c (g cap : Nat) (zs : List Int) (w : World) (hH : Holds (Value.int .i64) w g 0 zs.toArray) (hg : g < w.heap.size) (hl : zs.length ≤ 3) :
    Calls Tryd.prog 46 #[.slice (some ⟨g, 0, none⟩) zs.length cap] w fun e w' => e = .returned (.tuple #[]) ∧ Holds (Value.int .i64) w' g 0 (zs.mergeSort fun x y => decide (x ≤ y)).toArray ∧ w.grownBy w' (some g) := by
  refine (Tryd.slices_Sort_int g 0 cap zs w hH hg (by omega)).mono ?_
  rintro e w1 ⟨he, n, os, rfl⟩
  refine ⟨he, holds_grow _ _ _ _ _ _ (by simpa [putRow, mapBlock] using hg) (holds_putRow _ _ _ _ _ _ hH (by simp)), grownBy_sortedI _⟩
theorem compact_c (g cap : Nat) (zs : List Int) (w : World) (hH : Holds (Value.int .i64) w g 0 zs.toArray) (hg : g < w.heap.size) (hl : zs.length ≤ 3) (hcap : zs.length ≤ cap) (hc : (Lib.compact zs).length ≤ zs.length) :
    Calls Tryd.prog 47 #[.slice (some ⟨g, 0, none⟩) zs.length cap] w fun e w' => e = .returned (.slice (some ⟨g, 0, none⟩) (Lib.compact zs).length cap) ∧ Lst w' (some ⟨g, 0, none⟩) (Lib.compact zs) ∧ w.grownBy w' (some g) := by
  refine (Tryd.slices_Compact_int g 0 cap zs w hH (by omega) hcap).mono ?_
  rintro e w1 ⟨he, q, rfl⟩
  have h2 := holds_putRow (Value.int .i64) (Sort.ahead w q) g 0 zs.toArray (Lib.compact zs ++ List.replicate (zs.length - (Lib.compact zs).length) 0).toArray hH (by simp; omega)
  refine ⟨he, ⟨fun j x hj => ⟨g, rfl, by simpa [putRow, mapBlock] using hg, ?_⟩⟩, ?_⟩
  · obtain ⟨hjl, hjx⟩ := List.getElem?_eq_some_iff.1 hj
    have := (h2 j (by simp; omega)).1
    rw [Nat.zero_add] at this
    rw [this]
    congr 2
    rw [getElem!_pos _ _ (by simp; omega)]
    simp [hjl, hjx]
  · have := grownBy_sortedI (w := w) (g := g) (n := q) (os := #[]) (Lib.compact zs ++ List.replicate (zs.length - (Lib.compact zs).length) 0).toArray
    simpa using this
end Go.Proofs.YtpgjmegecfaijaaDoor
