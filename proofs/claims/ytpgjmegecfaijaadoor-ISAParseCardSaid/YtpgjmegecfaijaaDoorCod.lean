/-
  isa.Valid: which instructions are valid.
-/
import Derived.Test.YtpgjmegecfaijaaDoorSmall
namespace Go.Proofs.YtpgjmegecfaijaaDoor
open Go.RowKit

/-- the operands of an operation as a slice in memory -/
structure Lst (w : World) (sa : Option Addr) (l : List Int) : Prop where
  at_ : ∀ j x, l[j]? = some x → ∃ b, sa = some ⟨b, 0, none⟩ ∧ b < w.heap.size ∧ w.cell? ⟨b, j, none⟩ = some (.int .i64 x)
theorem Lst.next {w w1 : World} {sa : Option Addr} {l : List Int} (h : Lst w sa l) (hb : Below w.heap.size w w1) : Lst w1 sa l :=
  ⟨fun j x hj => by obtain ⟨b, e, hlt, hc⟩ := h.at_ j x hj; exact ⟨b, e, Nat.lt_of_lt_of_le hlt hb.size, ((bcell hb).1 b j hlt).trans hc⟩⟩
theorem OpTab.row0 {n : Nat} {w : World} (h : OpTab n w) : Lst w (some ⟨n + 0, 0, none⟩) [0] :=
  ⟨fun j x hj => by
    refine ⟨n + 0, rfl, by have := h.size; omega, ?_⟩
    match j with
    | 0 => simp at hj; subst hj; exact h.c00
    | j + 1 => simp at hj⟩
theorem OpTab.row1 {n : Nat} {w : World} (h : OpTab n w) : Lst w (some ⟨n + 1, 0, none⟩) [0, 1] :=
  ⟨fun j x hj => by
    refine ⟨n + 1, rfl, by have := h.size; omega, ?_⟩
    match j with
    | 0 => simp at hj; subst hj; exact h.c10
    | 1 => simp at hj; subst hj; exact h.c11
    | j + 2 => simp at hj⟩
theorem OpTab.row2 {n : Nat} {w : World} (h : OpTab n w) : Lst w (some ⟨n + 2, 0, none⟩) [0, 1, 2] :=
  ⟨fun j x hj => by
    refine ⟨n + 2, rfl, by have := h.size; omega, ?_⟩
    match j with
    | 0 => simp at hj; subst hj; exact h.c20
    | 1 => simp at hj; subst hj; exact h.c21
    | 2 => simp at hj; subst hj; exact h.c22
    | j + 3 => simp at hj⟩
theorem OpTab.row3 {n : Nat} {w : World} (h : OpTab n w) : Lst w (some ⟨n + 3, 0, none⟩) [0, 3] :=
  ⟨fun j x hj => by
    refine ⟨n + 3, rfl, by have := h.size; omega, ?_⟩
    match j with
    | 0 => simp at hj; subst hj; exact h.c30
    | 1 => simp at hj; subst hj; exact h.c31
    | j + 2 => simp at hj⟩
theorem OpTab.row4 {n : Nat} {w : World} (h : OpTab n w) : Lst w (some ⟨n + 4, 0, none⟩) [3] :=
  ⟨fun j x hj => by
    refine ⟨n + 4, rfl, by have := h.size; omega, ?_⟩
    match j with
    | 0 => simp at hj; subst hj; exact h.c40
    | j + 1 => simp at hj⟩
theorem OpTab.row5 {n : Nat} {w : World} (h : OpTab n w) : Lst w (some ⟨n + 5, 0, none⟩) [0, 1, 3] :=
  ⟨fun j x hj => by
    refine ⟨n + 5, rfl, by have := h.size; omega, ?_⟩
    match j with
    | 0 => simp at hj; subst hj; exact h.c50
    | 1 => simp at hj; subst hj; exact h.c51
    | 2 => simp at hj; subst hj; exact h.c52
    | j + 3 => simp at hj⟩
theorem Lst.empty {w : World} (sa : Option Addr) : Lst w sa [] := ⟨fun j x hj => by simp at hj⟩
theorem OpTab.lst {n : Nat} {w : World} (h : OpTab n w) : ∀ i, i < 31 → ∃ sa, osl n i = .slice sa (shp i).length (shp i).length ∧ Lst w sa (shp i)
  | 0, _ => ⟨_, rfl, Lst.empty _⟩
  | 1, _ => ⟨_, rfl, Lst.empty _⟩
  | 2, _ => ⟨_, rfl, h.row3⟩
  | 3, _ => ⟨_, rfl, h.row1⟩
  | 4, _ => ⟨_, rfl, h.row1⟩
  | 5, _ => ⟨_, rfl, h.row1⟩
  | 6, _ => ⟨_, rfl, h.row2⟩
  | 7, _ => ⟨_, rfl, h.row2⟩
  | 8, _ => ⟨_, rfl, h.row2⟩
  | 9, _ => ⟨_, rfl, h.row2⟩
  | 10, _ => ⟨_, rfl, h.row2⟩
  | 11, _ => ⟨_, rfl, h.row2⟩
  | 12, _ => ⟨_, rfl, h.row2⟩
  | 13, _ => ⟨_, rfl, h.row2⟩
  | 14, _ => ⟨_, rfl, h.row3⟩
  | 15, _ => ⟨_, rfl, h.row3⟩
  | 16, _ => ⟨_, rfl, h.row1⟩
  | 17, _ => ⟨_, rfl, h.row1⟩
  | 18, _ => ⟨_, rfl, h.row5⟩
  | 19, _ => ⟨_, rfl, h.row3⟩
  | 20, _ => ⟨_, rfl, h.row3⟩
  | 21, _ => ⟨_, rfl, h.row4⟩
  | 22, _ => ⟨_, rfl, h.row3⟩
  | 23, _ => ⟨_, rfl, h.row3⟩
  | 24, _ => ⟨_, rfl, h.row3⟩
  | 25, _ => ⟨_, rfl, h.row0⟩
  | 26, _ => ⟨_, rfl, h.row3⟩
  | 27, _ => ⟨_, rfl, h.row4⟩
  | 28, _ => ⟨_, rfl, h.row0⟩
  | 29, _ => ⟨_, rfl, h.row4⟩
  | 30, _ => ⟨_, rfl, Lst.empty _⟩
  | i + 31, hi => by omega
theorem shp_len : ∀ i, (shp i).length ≤ 3 := by intro i; unfold shp; split <;> simp
theorem shp_in : ∀ i x, x ∈ shp i → x = 0 ∨ x = 1 ∨ x = 2 ∨ x = 3 := by intro i x; unfold shp; split <;> simp <;> omega

/-- a block of an instruction -/
structure Cod (B : Nat) (op a b c m : Int) (w : World) : Prop where
  lt : B < w.heap.size
  c0 : w.cell? ⟨B, 0, none⟩ = some (.int .i64 op)
  c1 : w.cell? ⟨B, 1, none⟩ = some (.int .i64 a)
  c2 : w.cell? ⟨B, 2, none⟩ = some (.int .i64 b)
  c3 : w.cell? ⟨B, 3, none⟩ = some (.int .i64 c)
  c4 : w.cell? ⟨B, 4, none⟩ = some (.int .i16 m)
  f0 : w.frozen? ⟨B, 0, none⟩ = false
  f1 : w.frozen? ⟨B, 1, none⟩ = false
  f2 : w.frozen? ⟨B, 2, none⟩ = false
  f3 : w.frozen? ⟨B, 3, none⟩ = false
  f4 : w.frozen? ⟨B, 4, none⟩ = false
theorem Cod.next {B : Nat} {op a b c m : Int} {w w1 : World} (h : Cod B op a b c m w) (hb : Below w.heap.size w w1) : Cod B op a b c m w1 := by
  have k := (bcell hb).1
  have q := (bcell hb).2
  have l := h.lt
  exact ⟨Nat.lt_of_lt_of_le l hb.size, (k _ _ l).trans h.c0, (k _ _ l).trans h.c1, (k _ _ l).trans h.c2, (k _ _ l).trans h.c3, (k _ _ l).trans h.c4, (q _ _ l).trans h.f0, (q _ _ l).trans h.f1, (q _ _ l).trans h.f2, (q _ _ l).trans h.f3, (q _ _ l).trans h.f4⟩
theorem Cod.new {w : World} (op a b c m : Int) (t : TypeId) : Cod w.heap.size op a b c m (w.alloc (.cells #[.int .i64 op, .int .i64 a, .int .i64 b, .int .i64 c, .int .i16 m] t)) := by
  constructor
  · simp
  all_goals first | exact (World.cell?_alloc_at _ _ _ _ rfl).trans rfl | exact World.frozen?_alloc_at _ _ _ _ rfl
theorem Cod.off {B : Nat} {op a b c m : Int} {w : World} (h : Cod B op a b c m w) (b2 o : Nat) (v : Value) (hn : b2 ≠ B) : Cod B op a b c m (w.setCell ⟨b2, o, none⟩ v) := by
  have k : ∀ o2, (w.setCell ⟨b2, o, none⟩ v).cell? ⟨B, o2, none⟩ = w.cell? ⟨B, o2, none⟩ := fun o2 => World.cell?_setCell_other _ _ _ _ (by intro e; simp at e <;> omega)
  have q : ∀ o2, (w.setCell ⟨b2, o, none⟩ v).frozen? ⟨B, o2, none⟩ = w.frozen? ⟨B, o2, none⟩ := fun o2 => by simp
  exact ⟨by simpa using h.lt, (k _).trans h.c0, (k _).trans h.c1, (k _).trans h.c2, (k _).trans h.c3, (k _).trans h.c4, (q _).trans h.f0, (q _).trans h.f1, (q _).trans h.f2, (q _).trans h.f3, (q _).trans h.f4⟩

def put (o : Int) (j : Int) (new old : Int) : Int := if o = j then new else old
/-- what 'set' writes -/
def setW (B : Nat) (o n : Int) (w : World) : World :=
  if o = 0 then w.setCell ⟨B, 1, none⟩ (.int .i64 n) else if o = 1 then w.setCell ⟨B, 2, none⟩ (.int .i64 n) else if o = 2 then w.setCell ⟨B, 3, none⟩ (.int .i64 n) else w.setCell ⟨B, 4, none⟩ (.int .i16 (IntKind.i16.wrap n))
theorem set_c (B : Nat) (op a b c m o n : Int) (ho : o = 0 ∨ o = 1 ∨ o = 2 ∨ o = 3) (w : World) (C : Cod B op a b c m w) : Calls Tryd.prog 38 #[.pointer (some ⟨B, 0, none⟩), .int .i64 o, .int .i64 n] w fun e w' => e = .returned (.tuple #[]) ∧ w' = setW B o n w := by
  obtain ⟨lt, c0, c1, c2, c3, c4, f0, f1, f2, f3, f4⟩ := C
  go_enter Tryd.func38, Tryd.ntmps38
  rcases ho with rfl | rfl | rfl | rfl
  all_goals
    go_wp2_with fail
    go_end0
    exact ⟨rfl, rfl⟩
end Go.Proofs.YtpgjmegecfaijaaDoor
