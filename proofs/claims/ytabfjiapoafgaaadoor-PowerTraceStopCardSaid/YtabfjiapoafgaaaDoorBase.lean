/-
  What the walks of this seat need of the world ('Ready': the laid variables of strconv), and strconv's Itoa, FormatInt and ParseInt by the shelf's contracts in the walks' own form.
-/
import Derived.Test.YtabfjiapoafgaaaDoorShelf
import Derived.Test.YtabfjiapoafgaaaDoorDec
import Derived.WalkKit
import Derived.WalkSmall
import Derived.Lib.AppendIntMem
import Derived.Lib.AtoiErrMem
import Derived.Lib.ParseIntBTie
import Derived.Lib.Hide
import Derived.WalkLawsBesides
import Derived.WalkSpells
namespace Go.Proofs.YtabfjiapoafgaaaDoor
open Go.RowKit

structure Ready (w : World) : Prop where
  tab : Lib.TabIs Tryd.prog w "internal/strconv.uint64pow10" .u64 Lib.pow10Tab
  syn : ∃ te pe, w.var? Tryd.prog "strconv.ErrSyntax" = some #[.iface te pe]
  ran : ∃ te pe, w.var? Tryd.prog "strconv.ErrRange" = some #[.iface te pe]
  mx : ∃ m, w.cell? ⟨0, 0, none⟩ = some (.int .i64 m)

theorem gPow : Tryd.prog.globalNamed "internal/strconv.uint64pow10" = some 3 := by kernel_rfl
theorem gSyn : Tryd.prog.globalNamed "strconv.ErrSyntax" = some 1 := by kernel_rfl
theorem gRan : Tryd.prog.globalNamed "strconv.ErrRange" = some 2 := by kernel_rfl

/-- a variable lies below whatever is new -/
theorem var_later {w w' : World} {n : String} {g : Nat} {v : Value} {cs : List Value} (hg : Tryd.prog.globalNamed n = some g) (hb : Below w.heap.size w w') (h : w.var? Tryd.prog n = some (v :: cs).toArray) : w'.var? Tryd.prog n = some (v :: cs).toArray :=
  var?_below hb hg (World.block_lt_of_cell? w ⟨g, 0, none⟩ ((World.var?_cell hg h 0).trans rfl)) h
theorem Ready.below {w w' : World} (h : Ready w) (hb : Below w.heap.size w w') : Ready w' := by
  obtain ⟨a, b, hs⟩ := h.syn
  obtain ⟨c, d, hr⟩ := h.ran
  obtain ⟨m, hm⟩ := h.mx
  exact ⟨var_later gPow hb h.tab, ⟨a, b, var_later gSyn hb hs⟩, ⟨c, d, var_later gRan hb hr⟩, ⟨m, (hb.cell (p := ⟨0, 0, none⟩) (World.block_lt_of_cell? _ _ hm)).trans hm⟩⟩

theorem itoa_c (n : Int) (h0 : -9223372036854775808 ≤ n) (h1 : n ≤ 9223372036854775807) (w : World) (hr : Ready w) :
    Calls Tryd.prog 49 #[.int .i64 n] w fun e w' => e = .returned (.string ⟨(Lib.itoa n).toArray⟩) ∧ Below w.heap.size w w' :=
  (Tryd.strconv_Itoa n h0 h1 w hr.tab).mono fun _ _ ⟨he, k, os, hw⟩ => ⟨he, by subst hw; exact Lib.below_grow _ _ (Nat.le_refl _) k os⟩

theorem formatInt_c (n : Int) (h0 : -9223372036854775808 ≤ n) (h1 : n ≤ 9223372036854775807) (w : World) (hr : Ready w) :
    Calls Tryd.prog 50 #[.int .i64 n, .int .i64 10] w fun e w' => e = .returned (.string ⟨(Lib.itoa n).toArray⟩) ∧ Below w.heap.size w w' :=
  (Tryd.strconv_FormatInt_10 n h0 h1 w hr.tab).mono fun _ _ ⟨he, k, os, hw⟩ => ⟨he, by subst hw; exact Lib.below_grow _ _ (Nat.le_refl _) k os⟩

theorem below_drewN (w : World) (n : Nat) : Below w.heap.size w (w.drewN n) := ⟨rfl, rfl, rfl, Nat.le_refl _, fun _ _ => rfl⟩
theorem cut_c (s sep : ByteArray) (hs : s.size < 4294967281) (w : World) (hr : Ready w) :
    Calls Tryd.prog 41 #[.string s, .string sep] w fun e w' => e = .returned (.tuple #[.string ⟨(Lib.cut s.data.toList sep.data.toList).1.toArray⟩, .string ⟨(Lib.cut s.data.toList sep.data.toList).2.1.toArray⟩, .bool (Lib.cut s.data.toList sep.data.toList).2.2]) ∧ Below w.heap.size w w' := by
  obtain ⟨m, hm⟩ := hr.mx
  exact (Tryd.strings_Cut s sep m w hs hm).mono fun _ _ ⟨he, n, hw⟩ => ⟨he, by subst hw; exact below_drewN w n⟩
theorem cut_is (s sep : ByteArray) (hs : s.size < 4294967281) {l m : List UInt8} {b : Bool} (h : Lib.cut s.data.toList sep.data.toList = (l, m, b)) (w : World) (hr : Ready w) :
    Calls Tryd.prog 41 #[.string s, .string sep] w fun e w' => e = .returned (.tuple #[.string ⟨l.toArray⟩, .string ⟨m.toArray⟩, .bool b]) ∧ Below w.heap.size w w' := by
  have := cut_c s sep hs w hr
  rw [h] at this
  exact this
theorem split_c (s sep : ByteArray) (hs : s.size < 4294967281) (h1 : 1 ≤ sep.size) (w : World) (hr : Ready w) :
    Calls Tryd.prog 40 #[.string s, .string sep] w fun e w' => e = .returned (.slice (some ⟨w.heap.size, 0, none⟩) (Lib.countB s sep + 1) (Lib.countB s sep + 1)) ∧ w' = w.alloc (.cells ((Lib.splitB sep 0 (Lib.countB s sep) s).map Value.string).toArray 9) := by
  obtain ⟨m, hm⟩ := hr.mx
  exact Tryd.strings_Split s sep m w hs hm h1
theorem below_of_parse {w w' : World} (h : w' = w ∨ ∃ t, w' = Lib.bytesWorld w 5 t) : Below w.heap.size w w' := by
  rcases h with rfl | ⟨t, rfl⟩
  · exact Below.refl _ _
  · exact Lib.bytesWorld_below _ _ _

/-- what a failed ParseInt hands back -/
def Failed (w : World) (e : Ending) (w' : World) : Prop := ∃ (n : Int) (N : Nat), -9223372036854775808 ≤ n ∧ n ≤ 9223372036854775807 ∧ e = .returned (.tuple #[.int .i64 n, .iface 104 (.pointer (some ⟨N, 0, none⟩))]) ∧ Below w.heap.size w w'
theorem intSat_bd64 (l : List UInt8) : -9223372036854775808 ≤ Lib.intSat 64 l ∧ Lib.intSat 64 l ≤ 9223372036854775807 := by unfold Lib.intSat; split <;> decide
theorem parse64_ok (s : ByteArray) (hs : s.size ≤ 140737488351232) (v : Int) (h : Lib.parseIntB 64 s.data.toList = .ok v) (w : World) :
    Calls Tryd.prog 43 #[.string s, .int .i64 10, .int .i64 64] w fun e w' => e = .returned (.tuple #[.int .i64 v, .nilIface]) ∧ Below w.heap.size w w' :=
  (Tryd.strconv_ParseInt_10_at64_ok s (by omega) v h w).mono fun _ _ ⟨he, hw⟩ => ⟨he, below_of_parse hw⟩
theorem parse64_bad (s : ByteArray) (hs : s.size ≤ 140737488351232) (h : ∀ v, Lib.parseIntB 64 s.data.toList ≠ .ok v) (w : World) (hr : Ready w) :
    Calls Tryd.prog 43 #[.string s, .int .i64 10, .int .i64 64] w (Failed w) := by
  obtain ⟨ts, ps, hs1⟩ := hr.syn
  obtain ⟨tr, pr, hr1⟩ := hr.ran
  cases hp : Lib.parseIntB 64 s.data.toList with
  | ok v => exact absurd hp (h v)
  | range => exact (Tryd.strconv_ParseInt_10_at64_range_var s (by omega) hp tr pr w hr1).mono fun _ _ ⟨N, he, _, _, hb⟩ => ⟨_, N, (intSat_bd64 _).1, (intSat_bd64 _).2, he, hb⟩
  | _ => exact (Tryd.strconv_ParseInt_10_at64_syntax_var s (by omega) hp ts ps w hs1).mono fun _ _ ⟨N, he, _, _, hb⟩ => ⟨0, N, by decide, by decide, he, hb⟩
end Go.Proofs.YtabfjiapoafgaaaDoor
