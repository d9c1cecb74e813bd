/-
  The table of operations: what isa.operations lays, cell by cell. Printed by gen_tab.py.
-/
import Derived.Test.YtpgjmegecfaijaaDoorAid
import Derived.Test.YtpgjmegecfaijaaDoorBase
namespace Go.Proofs.YtpgjmegecfaijaaDoor
open Go.RowKit

def nam : Nat → ByteArray
  | 0 => ⟨#[]⟩
  | 1 => ⟨#[104, 97, 108, 116]⟩
  | 2 => ⟨#[109, 111, 118, 105]⟩
  | 3 => ⟨#[109, 111, 118]⟩
  | 4 => ⟨#[110, 101, 103]⟩
  | 5 => ⟨#[110, 111, 116]⟩
  | 6 => ⟨#[97, 100, 100]⟩
  | 7 => ⟨#[115, 117, 98]⟩
  | 8 => ⟨#[109, 117, 108]⟩
  | 9 => ⟨#[100, 105, 118]⟩
  | 10 => ⟨#[109, 111, 100]⟩
  | 11 => ⟨#[101, 113]⟩
  | 12 => ⟨#[108, 116]⟩
  | 13 => ⟨#[108, 101]⟩
  | 14 => ⟨#[108, 111, 97, 100]⟩
  | 15 => ⟨#[115, 116, 111, 114, 101]⟩
  | 16 => ⟨#[108, 111, 97, 100, 120]⟩
  | 17 => ⟨#[115, 116, 111, 114, 101, 120]⟩
  | 18 => ⟨#[105, 110, 100, 101, 120]⟩
  | 19 => ⟨#[115, 112, 105, 108, 108]⟩
  | 20 => ⟨#[102, 105, 108, 108]⟩
  | 21 => ⟨#[106, 117, 109, 112]⟩
  | 22 => ⟨#[106, 117, 109, 112, 122]⟩
  | 23 => ⟨#[114, 101, 97, 100]⟩
  | 24 => ⟨#[115, 101, 110, 100]⟩
  | 25 => ⟨#[101, 109, 105, 116]⟩
  | 26 => ⟨#[111, 117, 116]⟩
  | 27 => ⟨#[108, 111, 103]⟩
  | 28 => ⟨#[108, 111, 103, 120]⟩
  | 29 => ⟨#[99, 111, 109, 109, 105, 116]⟩
  | 30 => ⟨#[110, 111, 112]⟩
  | _ => ⟨#[]⟩
def shp : Nat → List Int
  | 0 => []
  | 1 => []
  | 2 => [0, 3]
  | 3 => [0, 1]
  | 4 => [0, 1]
  | 5 => [0, 1]
  | 6 => [0, 1, 2]
  | 7 => [0, 1, 2]
  | 8 => [0, 1, 2]
  | 9 => [0, 1, 2]
  | 10 => [0, 1, 2]
  | 11 => [0, 1, 2]
  | 12 => [0, 1, 2]
  | 13 => [0, 1, 2]
  | 14 => [0, 3]
  | 15 => [0, 3]
  | 16 => [0, 1]
  | 17 => [0, 1]
  | 18 => [0, 1, 3]
  | 19 => [0, 3]
  | 20 => [0, 3]
  | 21 => [3]
  | 22 => [0, 3]
  | 23 => [0, 3]
  | 24 => [0, 3]
  | 25 => [0]
  | 26 => [0, 3]
  | 27 => [3]
  | 28 => [0]
  | 29 => [3]
  | 30 => []
  | _ => []
/-- the slice of operands of an operation, the blocks laid from n on -/
def osl (n : Nat) : Nat → Value
  | 0 => .slice none 0 0
  | 1 => .slice none 0 0
  | 2 => .slice (some ⟨n + 3, 0, none⟩) 2 2
  | 3 => .slice (some ⟨n + 1, 0, none⟩) 2 2
  | 4 => .slice (some ⟨n + 1, 0, none⟩) 2 2
  | 5 => .slice (some ⟨n + 1, 0, none⟩) 2 2
  | 6 => .slice (some ⟨n + 2, 0, none⟩) 3 3
  | 7 => .slice (some ⟨n + 2, 0, none⟩) 3 3
  | 8 => .slice (some ⟨n + 2, 0, none⟩) 3 3
  | 9 => .slice (some ⟨n + 2, 0, none⟩) 3 3
  | 10 => .slice (some ⟨n + 2, 0, none⟩) 3 3
  | 11 => .slice (some ⟨n + 2, 0, none⟩) 3 3
  | 12 => .slice (some ⟨n + 2, 0, none⟩) 3 3
  | 13 => .slice (some ⟨n + 2, 0, none⟩) 3 3
  | 14 => .slice (some ⟨n + 3, 0, none⟩) 2 2
  | 15 => .slice (some ⟨n + 3, 0, none⟩) 2 2
  | 16 => .slice (some ⟨n + 1, 0, none⟩) 2 2
  | 17 => .slice (some ⟨n + 1, 0, none⟩) 2 2
  | 18 => .slice (some ⟨n + 5, 0, none⟩) 3 3
  | 19 => .slice (some ⟨n + 3, 0, none⟩) 2 2
  | 20 => .slice (some ⟨n + 3, 0, none⟩) 2 2
  | 21 => .slice (some ⟨n + 4, 0, none⟩) 1 1
  | 22 => .slice (some ⟨n + 3, 0, none⟩) 2 2
  | 23 => .slice (some ⟨n + 3, 0, none⟩) 2 2
  | 24 => .slice (some ⟨n + 3, 0, none⟩) 2 2
  | 25 => .slice (some ⟨n + 0, 0, none⟩) 1 1
  | 26 => .slice (some ⟨n + 3, 0, none⟩) 2 2
  | 27 => .slice (some ⟨n + 4, 0, none⟩) 1 1
  | 28 => .slice (some ⟨n + 0, 0, none⟩) 1 1
  | 29 => .slice (some ⟨n + 4, 0, none⟩) 1 1
  | 30 => .slice none 0 0
  | _ => .slice none 0 0
structure OpTab (n : Nat) (w : World) : Prop where
  size : n + 7 ≤ w.heap.size
  c00 : w.cell? ⟨n + 0, 0, none⟩ = some (.int .i64 0)
  c10 : w.cell? ⟨n + 1, 0, none⟩ = some (.int .i64 0)
  c11 : w.cell? ⟨n + 1, 1, none⟩ = some (.int .i64 1)
  c20 : w.cell? ⟨n + 2, 0, none⟩ = some (.int .i64 0)
  c21 : w.cell? ⟨n + 2, 1, none⟩ = some (.int .i64 1)
  c22 : w.cell? ⟨n + 2, 2, none⟩ = some (.int .i64 2)
  c30 : w.cell? ⟨n + 3, 0, none⟩ = some (.int .i64 0)
  c31 : w.cell? ⟨n + 3, 1, none⟩ = some (.int .i64 3)
  c40 : w.cell? ⟨n + 4, 0, none⟩ = some (.int .i64 3)
  c50 : w.cell? ⟨n + 5, 0, none⟩ = some (.int .i64 0)
  c51 : w.cell? ⟨n + 5, 1, none⟩ = some (.int .i64 1)
  c52 : w.cell? ⟨n + 5, 2, none⟩ = some (.int .i64 3)
  s0 : w.cell? ⟨n + 6, 0, none⟩ = some (.string ⟨#[]⟩)
  o0 : w.cell? ⟨n + 6, 1, none⟩ = some (.slice none 0 0)
  s1 : w.cell? ⟨n + 6, 2, none⟩ = some (.string ⟨#[104, 97, 108, 116]⟩)
  o1 : w.cell? ⟨n + 6, 3, none⟩ = some (.slice none 0 0)
  s2 : w.cell? ⟨n + 6, 4, none⟩ = some (.string ⟨#[109, 111, 118, 105]⟩)
  o2 : w.cell? ⟨n + 6, 5, none⟩ = some (.slice (some ⟨n + 3, 0, none⟩) 2 2)
  s3 : w.cell? ⟨n + 6, 6, none⟩ = some (.string ⟨#[109, 111, 118]⟩)
  o3 : w.cell? ⟨n + 6, 7, none⟩ = some (.slice (some ⟨n + 1, 0, none⟩) 2 2)
  s4 : w.cell? ⟨n + 6, 8, none⟩ = some (.string ⟨#[110, 101, 103]⟩)
  o4 : w.cell? ⟨n + 6, 9, none⟩ = some (.slice (some ⟨n + 1, 0, none⟩) 2 2)
  s5 : w.cell? ⟨n + 6, 10, none⟩ = some (.string ⟨#[110, 111, 116]⟩)
  o5 : w.cell? ⟨n + 6, 11, none⟩ = some (.slice (some ⟨n + 1, 0, none⟩) 2 2)
  s6 : w.cell? ⟨n + 6, 12, none⟩ = some (.string ⟨#[97, 100, 100]⟩)
  o6 : w.cell? ⟨n + 6, 13, none⟩ = some (.slice (some ⟨n + 2, 0, none⟩) 3 3)
  s7 : w.cell? ⟨n + 6, 14, none⟩ = some (.string ⟨#[115, 117, 98]⟩)
  o7 : w.cell? ⟨n + 6, 15, none⟩ = some (.slice (some ⟨n + 2, 0, none⟩) 3 3)
  s8 : w.cell? ⟨n + 6, 16, none⟩ = some (.string ⟨#[109, 117, 108]⟩)
  o8 : w.cell? ⟨n + 6, 17, none⟩ = some (.slice (some ⟨n + 2, 0, none⟩) 3 3)
  s9 : w.cell? ⟨n + 6, 18, none⟩ = some (.string ⟨#[100, 105, 118]⟩)
  o9 : w.cell? ⟨n + 6, 19, none⟩ = some (.slice (some ⟨n + 2, 0, none⟩) 3 3)
  s10 : w.cell? ⟨n + 6, 20, none⟩ = some (.string ⟨#[109, 111, 100]⟩)
  o10 : w.cell? ⟨n + 6, 21, none⟩ = some (.slice (some ⟨n + 2, 0, none⟩) 3 3)
  s11 : w.cell? ⟨n + 6, 22, none⟩ = some (.string ⟨#[101, 113]⟩)
  o11 : w.cell? ⟨n + 6, 23, none⟩ = some (.slice (some ⟨n + 2, 0, none⟩) 3 3)
  s12 : w.cell? ⟨n + 6, 24, none⟩ = some (.string ⟨#[108, 116]⟩)
  o12 : w.cell? ⟨n + 6, 25, none⟩ = some (.slice (some ⟨n + 2, 0, none⟩) 3 3)
  s13 : w.cell? ⟨n + 6, 26, none⟩ = some (.string ⟨#[108, 101]⟩)
  o13 : w.cell? ⟨n + 6, 27, none⟩ = some (.slice (some ⟨n + 2, 0, none⟩) 3 3)
  s14 : w.cell? ⟨n + 6, 28, none⟩ = some (.string ⟨#[108, 111, 97, 100]⟩)
  o14 : w.cell? ⟨n + 6, 29, none⟩ = some (.slice (some ⟨n + 3, 0, none⟩) 2 2)
  s15 : w.cell? ⟨n + 6, 30, none⟩ = some (.string ⟨#[115, 116, 111, 114, 101]⟩)
  o15 : w.cell? ⟨n + 6, 31, none⟩ = some (.slice (some ⟨n + 3, 0, none⟩) 2 2)
  s16 : w.cell? ⟨n + 6, 32, none⟩ = some (.string ⟨#[108, 111, 97, 100, 120]⟩)
  o16 : w.cell? ⟨n + 6, 33, none⟩ = some (.slice (some ⟨n + 1, 0, none⟩) 2 2)
  s17 : w.cell? ⟨n + 6, 34, none⟩ = some (.string ⟨#[115, 116, 111, 114, 101, 120]⟩)
  o17 : w.cell? ⟨n + 6, 35, none⟩ = some (.slice (some ⟨n + 1, 0, none⟩) 2 2)
  s18 : w.cell? ⟨n + 6, 36, none⟩ = some (.string ⟨#[105, 110, 100, 101, 120]⟩)
  o18 : w.cell? ⟨n + 6, 37, none⟩ = some (.slice (some ⟨n + 5, 0, none⟩) 3 3)
  s19 : w.cell? ⟨n + 6, 38, none⟩ = some (.string ⟨#[115, 112, 105, 108, 108]⟩)
  o19 : w.cell? ⟨n + 6, 39, none⟩ = some (.slice (some ⟨n + 3, 0, none⟩) 2 2)
  s20 : w.cell? ⟨n + 6, 40, none⟩ = some (.string ⟨#[102, 105, 108, 108]⟩)
  o20 : w.cell? ⟨n + 6, 41, none⟩ = some (.slice (some ⟨n + 3, 0, none⟩) 2 2)
  s21 : w.cell? ⟨n + 6, 42, none⟩ = some (.string ⟨#[106, 117, 109, 112]⟩)
  o21 : w.cell? ⟨n + 6, 43, none⟩ = some (.slice (some ⟨n + 4, 0, none⟩) 1 1)
  s22 : w.cell? ⟨n + 6, 44, none⟩ = some (.string ⟨#[106, 117, 109, 112, 122]⟩)
  o22 : w.cell? ⟨n + 6, 45, none⟩ = some (.slice (some ⟨n + 3, 0, none⟩) 2 2)
  s23 : w.cell? ⟨n + 6, 46, none⟩ = some (.string ⟨#[114, 101, 97, 100]⟩)
  o23 : w.cell? ⟨n + 6, 47, none⟩ = some (.slice (some ⟨n + 3, 0, none⟩) 2 2)
  s24 : w.cell? ⟨n + 6, 48, none⟩ = some (.string ⟨#[115, 101, 110, 100]⟩)
  o24 : w.cell? ⟨n + 6, 49, none⟩ = some (.slice (some ⟨n + 3, 0, none⟩) 2 2)
  s25 : w.cell? ⟨n + 6, 50, none⟩ = some (.string ⟨#[101, 109, 105, 116]⟩)
  o25 : w.cell? ⟨n + 6, 51, none⟩ = some (.slice (some ⟨n + 0, 0, none⟩) 1 1)
  s26 : w.cell? ⟨n + 6, 52, none⟩ = some (.string ⟨#[111, 117, 116]⟩)
  o26 : w.cell? ⟨n + 6, 53, none⟩ = some (.slice (some ⟨n + 3, 0, none⟩) 2 2)
  s27 : w.cell? ⟨n + 6, 54, none⟩ = some (.string ⟨#[108, 111, 103]⟩)
  o27 : w.cell? ⟨n + 6, 55, none⟩ = some (.slice (some ⟨n + 4, 0, none⟩) 1 1)
  s28 : w.cell? ⟨n + 6, 56, none⟩ = some (.string ⟨#[108, 111, 103, 120]⟩)
  o28 : w.cell? ⟨n + 6, 57, none⟩ = some (.slice (some ⟨n + 0, 0, none⟩) 1 1)
  s29 : w.cell? ⟨n + 6, 58, none⟩ = some (.string ⟨#[99, 111, 109, 109, 105, 116]⟩)
  o29 : w.cell? ⟨n + 6, 59, none⟩ = some (.slice (some ⟨n + 4, 0, none⟩) 1 1)
  s30 : w.cell? ⟨n + 6, 60, none⟩ = some (.string ⟨#[110, 111, 112]⟩)
  o30 : w.cell? ⟨n + 6, 61, none⟩ = some (.slice none 0 0)
theorem OpTab.keep {n : Nat} {w w1 : World} (h : OpTab n w) (hs : w.heap.size ≤ w1.heap.size) (k : ∀ b o, n ≤ b → b < n + 7 → w1.cell? ⟨b, o, none⟩ = w.cell? ⟨b, o, none⟩) : OpTab n w1 := by
  exact ⟨Nat.le_trans h.size hs, (k _ _ (by omega) (by omega)).trans h.c00, (k _ _ (by omega) (by omega)).trans h.c10, (k _ _ (by omega) (by omega)).trans h.c11, (k _ _ (by omega) (by omega)).trans h.c20, (k _ _ (by omega) (by omega)).trans h.c21, (k _ _ (by omega) (by omega)).trans h.c22, (k _ _ (by omega) (by omega)).trans h.c30, (k _ _ (by omega) (by omega)).trans h.c31, (k _ _ (by omega) (by omega)).trans h.c40, (k _ _ (by omega) (by omega)).trans h.c50, (k _ _ (by omega) (by omega)).trans h.c51, (k _ _ (by omega) (by omega)).trans h.c52, (k _ _ (by omega) (by omega)).trans h.s0, (k _ _ (by omega) (by omega)).trans h.o0, (k _ _ (by omega) (by omega)).trans h.s1, (k _ _ (by omega) (by omega)).trans h.o1, (k _ _ (by omega) (by omega)).trans h.s2, (k _ _ (by omega) (by omega)).trans h.o2, (k _ _ (by omega) (by omega)).trans h.s3, (k _ _ (by omega) (by omega)).trans h.o3, (k _ _ (by omega) (by omega)).trans h.s4, (k _ _ (by omega) (by omega)).trans h.o4, (k _ _ (by omega) (by omega)).trans h.s5, (k _ _ (by omega) (by omega)).trans h.o5, (k _ _ (by omega) (by omega)).trans h.s6, (k _ _ (by omega) (by omega)).trans h.o6, (k _ _ (by omega) (by omega)).trans h.s7, (k _ _ (by omega) (by omega)).trans h.o7, (k _ _ (by omega) (by omega)).trans h.s8, (k _ _ (by omega) (by omega)).trans h.o8, (k _ _ (by omega) (by omega)).trans h.s9, (k _ _ (by omega) (by omega)).trans h.o9, (k _ _ (by omega) (by omega)).trans h.s10, (k _ _ (by omega) (by omega)).trans h.o10, (k _ _ (by omega) (by omega)).trans h.s11, (k _ _ (by omega) (by omega)).trans h.o11, (k _ _ (by omega) (by omega)).trans h.s12, (k _ _ (by omega) (by omega)).trans h.o12, (k _ _ (by omega) (by omega)).trans h.s13, (k _ _ (by omega) (by omega)).trans h.o13, (k _ _ (by omega) (by omega)).trans h.s14, (k _ _ (by omega) (by omega)).trans h.o14, (k _ _ (by omega) (by omega)).trans h.s15, (k _ _ (by omega) (by omega)).trans h.o15, (k _ _ (by omega) (by omega)).trans h.s16, (k _ _ (by omega) (by omega)).trans h.o16, (k _ _ (by omega) (by omega)).trans h.s17, (k _ _ (by omega) (by omega)).trans h.o17, (k _ _ (by omega) (by omega)).trans h.s18, (k _ _ (by omega) (by omega)).trans h.o18, (k _ _ (by omega) (by omega)).trans h.s19, (k _ _ (by omega) (by omega)).trans h.o19, (k _ _ (by omega) (by omega)).trans h.s20, (k _ _ (by omega) (by omega)).trans h.o20, (k _ _ (by omega) (by omega)).trans h.s21, (k _ _ (by omega) (by omega)).trans h.o21, (k _ _ (by omega) (by omega)).trans h.s22, (k _ _ (by omega) (by omega)).trans h.o22, (k _ _ (by omega) (by omega)).trans h.s23, (k _ _ (by omega) (by omega)).trans h.o23, (k _ _ (by omega) (by omega)).trans h.s24, (k _ _ (by omega) (by omega)).trans h.o24, (k _ _ (by omega) (by omega)).trans h.s25, (k _ _ (by omega) (by omega)).trans h.o25, (k _ _ (by omega) (by omega)).trans h.s26, (k _ _ (by omega) (by omega)).trans h.o26, (k _ _ (by omega) (by omega)).trans h.s27, (k _ _ (by omega) (by omega)).trans h.o27, (k _ _ (by omega) (by omega)).trans h.s28, (k _ _ (by omega) (by omega)).trans h.o28, (k _ _ (by omega) (by omega)).trans h.s29, (k _ _ (by omega) (by omega)).trans h.o29, (k _ _ (by omega) (by omega)).trans h.s30, (k _ _ (by omega) (by omega)).trans h.o30⟩
theorem OpTab.next {n : Nat} {w w1 : World} (h : OpTab n w) (hb : Below w.heap.size w w1) : OpTab n w1 :=
  h.keep hb.size fun b o _ hb0 => (bcell hb).1 b o (Nat.lt_of_lt_of_le hb0 h.size)
theorem OpTab.set {n : Nat} {w : World} (h : OpTab n w) (b o : Nat) (v : Value) (hb : b < n) : OpTab n (w.setCell ⟨b, o, none⟩ v) :=
  h.keep (by simp) fun c o2 h0 _ => World.cell?_setCell_other _ _ _ _ (by intro e; simp at e <;> omega)
set_option maxRecDepth 100000 in
set_option maxHeartbeats 4000000 in
theorem optab_new (w : World) : OpTab w.heap.size (((((((w.alloc (.cells #[.int .i64 0] 49)).alloc (.cells #[.int .i64 0, .int .i64 1] 49)).alloc (.cells #[.int .i64 0, .int .i64 1, .int .i64 2] 49)).alloc (.cells #[.int .i64 0, .int .i64 3] 49)).alloc (.cells #[.int .i64 3] 49)).alloc (.cells #[.int .i64 0, .int .i64 1, .int .i64 3] 49)).alloc (.cells #[.string ⟨#[]⟩, .slice none 0 0, .string ⟨#[104, 97, 108, 116]⟩, .slice none 0 0, .string ⟨#[109, 111, 118, 105]⟩, .slice (some ⟨w.heap.size + 3, 0, none⟩) 2 2, .string ⟨#[109, 111, 118]⟩, .slice (some ⟨w.heap.size + 1, 0, none⟩) 2 2, .string ⟨#[110, 101, 103]⟩, .slice (some ⟨w.heap.size + 1, 0, none⟩) 2 2, .string ⟨#[110, 111, 116]⟩, .slice (some ⟨w.heap.size + 1, 0, none⟩) 2 2, .string ⟨#[97, 100, 100]⟩, .slice (some ⟨w.heap.size + 2, 0, none⟩) 3 3, .string ⟨#[115, 117, 98]⟩, .slice (some ⟨w.heap.size + 2, 0, none⟩) 3 3, .string ⟨#[109, 117, 108]⟩, .slice (some ⟨w.heap.size + 2, 0, none⟩) 3 3, .string ⟨#[100, 105, 118]⟩, .slice (some ⟨w.heap.size + 2, 0, none⟩) 3 3, .string ⟨#[109, 111, 100]⟩, .slice (some ⟨w.heap.size + 2, 0, none⟩) 3 3, .string ⟨#[101, 113]⟩, .slice (some ⟨w.heap.size + 2, 0, none⟩) 3 3, .string ⟨#[108, 116]⟩, .slice (some ⟨w.heap.size + 2, 0, none⟩) 3 3, .string ⟨#[108, 101]⟩, .slice (some ⟨w.heap.size + 2, 0, none⟩) 3 3, .string ⟨#[108, 111, 97, 100]⟩, .slice (some ⟨w.heap.size + 3, 0, none⟩) 2 2, .string ⟨#[115, 116, 111, 114, 101]⟩, .slice (some ⟨w.heap.size + 3, 0, none⟩) 2 2, .string ⟨#[108, 111, 97, 100, 120]⟩, .slice (some ⟨w.heap.size + 1, 0, none⟩) 2 2, .string ⟨#[115, 116, 111, 114, 101, 120]⟩, .slice (some ⟨w.heap.size + 1, 0, none⟩) 2 2, .string ⟨#[105, 110, 100, 101, 120]⟩, .slice (some ⟨w.heap.size + 5, 0, none⟩) 3 3, .string ⟨#[115, 112, 105, 108, 108]⟩, .slice (some ⟨w.heap.size + 3, 0, none⟩) 2 2, .string ⟨#[102, 105, 108, 108]⟩, .slice (some ⟨w.heap.size + 3, 0, none⟩) 2 2, .string ⟨#[106, 117, 109, 112]⟩, .slice (some ⟨w.heap.size + 4, 0, none⟩) 1 1, .string ⟨#[106, 117, 109, 112, 122]⟩, .slice (some ⟨w.heap.size + 3, 0, none⟩) 2 2, .string ⟨#[114, 101, 97, 100]⟩, .slice (some ⟨w.heap.size + 3, 0, none⟩) 2 2, .string ⟨#[115, 101, 110, 100]⟩, .slice (some ⟨w.heap.size + 3, 0, none⟩) 2 2, .string ⟨#[101, 109, 105, 116]⟩, .slice (some ⟨w.heap.size + 0, 0, none⟩) 1 1, .string ⟨#[111, 117, 116]⟩, .slice (some ⟨w.heap.size + 3, 0, none⟩) 2 2, .string ⟨#[108, 111, 103]⟩, .slice (some ⟨w.heap.size + 4, 0, none⟩) 1 1, .string ⟨#[108, 111, 103, 120]⟩, .slice (some ⟨w.heap.size + 0, 0, none⟩) 1 1, .string ⟨#[99, 111, 109, 109, 105, 116]⟩, .slice (some ⟨w.heap.size + 4, 0, none⟩) 1 1, .string ⟨#[110, 111, 112]⟩, .slice none 0 0] 46)) := by
  constructor
  · simp
  · exact (World.cell?_alloc_past _ _ _ (by simp <;> omega)).trans ((World.cell?_alloc_past _ _ _ (by simp <;> omega)).trans ((World.cell?_alloc_past _ _ _ (by simp <;> omega)).trans ((World.cell?_alloc_past _ _ _ (by simp <;> omega)).trans ((World.cell?_alloc_past _ _ _ (by simp <;> omega)).trans ((World.cell?_alloc_past _ _ _ (by simp <;> omega)).trans ((World.cell?_alloc_at _ _ _ _ (by simp)).trans rfl))))))
  · exact (World.cell?_alloc_past _ _ _ (by simp <;> omega)).trans ((World.cell?_alloc_past _ _ _ (by simp <;> omega)).trans ((World.cell?_alloc_past _ _ _ (by simp <;> omega)).trans ((World.cell?_alloc_past _ _ _ (by simp <;> omega)).trans ((World.cell?_alloc_past _ _ _ (by simp <;> omega)).trans ((World.cell?_alloc_at _ _ _ _ (by simp)).trans rfl)))))
  · exact (World.cell?_alloc_past _ _ _ (by simp <;> omega)).trans ((World.cell?_alloc_past _ _ _ (by simp <;> omega)).trans ((World.cell?_alloc_past _ _ _ (by simp <;> omega)).trans ((World.cell?_alloc_past _ _ _ (by simp <;> omega)).trans ((World.cell?_alloc_past _ _ _ (by simp <;> omega)).trans ((World.cell?_alloc_at _ _ _ _ (by simp)).trans rfl)))))
  · exact (World.cell?_alloc_past _ _ _ (by simp <;> omega)).trans ((World.cell?_alloc_past _ _ _ (by simp <;> omega)).trans ((World.cell?_alloc_past _ _ _ (by simp <;> omega)).trans ((World.cell?_alloc_past _ _ _ (by simp <;> omega)).trans ((World.cell?_alloc_at _ _ _ _ (by simp)).trans rfl))))
  · exact (World.cell?_alloc_past _ _ _ (by simp <;> omega)).trans ((World.cell?_alloc_past _ _ _ (by simp <;> omega)).trans ((World.cell?_alloc_past _ _ _ (by simp <;> omega)).trans ((World.cell?_alloc_past _ _ _ (by simp <;> omega)).trans ((World.cell?_alloc_at _ _ _ _ (by simp)).trans rfl))))
  · exact (World.cell?_alloc_past _ _ _ (by simp <;> omega)).trans ((World.cell?_alloc_past _ _ _ (by simp <;> omega)).trans ((World.cell?_alloc_past _ _ _ (by simp <;> omega)).trans ((World.cell?_alloc_past _ _ _ (by simp <;> omega)).trans ((World.cell?_alloc_at _ _ _ _ (by simp)).trans rfl))))
  · exact (World.cell?_alloc_past _ _ _ (by simp <;> omega)).trans ((World.cell?_alloc_past _ _ _ (by simp <;> omega)).trans ((World.cell?_alloc_past _ _ _ (by simp <;> omega)).trans ((World.cell?_alloc_at _ _ _ _ (by simp)).trans rfl)))
  · exact (World.cell?_alloc_past _ _ _ (by simp <;> omega)).trans ((World.cell?_alloc_past _ _ _ (by simp <;> omega)).trans ((World.cell?_alloc_past _ _ _ (by simp <;> omega)).trans ((World.cell?_alloc_at _ _ _ _ (by simp)).trans rfl)))
  · exact (World.cell?_alloc_past _ _ _ (by simp <;> omega)).trans ((World.cell?_alloc_past _ _ _ (by simp <;> omega)).trans ((World.cell?_alloc_at _ _ _ _ (by simp)).trans rfl))
  · exact (World.cell?_alloc_past _ _ _ (by simp <;> omega)).trans ((World.cell?_alloc_at _ _ _ _ (by simp)).trans rfl)
  · exact (World.cell?_alloc_past _ _ _ (by simp <;> omega)).trans ((World.cell?_alloc_at _ _ _ _ (by simp)).trans rfl)
  · exact (World.cell?_alloc_past _ _ _ (by simp <;> omega)).trans ((World.cell?_alloc_at _ _ _ _ (by simp)).trans rfl)
  · exact (World.cell?_alloc_at _ _ _ _ (by simp)).trans rfl
  · exact (World.cell?_alloc_at _ _ _ _ (by simp)).trans rfl
  · exact (World.cell?_alloc_at _ _ _ _ (by simp)).trans rfl
  · exact (World.cell?_alloc_at _ _ _ _ (by simp)).trans rfl
  · exact (World.cell?_alloc_at _ _ _ _ (by simp)).trans rfl
  · exact (World.cell?_alloc_at _ _ _ _ (by simp)).trans rfl
  · exact (World.cell?_alloc_at _ _ _ _ (by simp)).trans rfl
  · exact (World.cell?_alloc_at _ _ _ _ (by simp)).trans rfl
  · exact (World.cell?_alloc_at _ _ _ _ (by simp)).trans rfl
  · exact (World.cell?_alloc_at _ _ _ _ (by simp)).trans rfl
  · exact (World.cell?_alloc_at _ _ _ _ (by simp)).trans rfl
  · exact (World.cell?_alloc_at _ _ _ _ (by simp)).trans rfl
  · exact (World.cell?_alloc_at _ _ _ _ (by simp)).trans rfl
  · exact (World.cell?_alloc_at _ _ _ _ (by simp)).trans rfl
  · exact (World.cell?_alloc_at _ _ _ _ (by simp)).trans rfl
  · exact (World.cell?_alloc_at _ _ _ _ (by simp)).trans rfl
  · exact (World.cell?_alloc_at _ _ _ _ (by simp)).trans rfl
  · exact (World.cell?_alloc_at _ _ _ _ (by simp)).trans rfl
  · exact (World.cell?_alloc_at _ _ _ _ (by simp)).trans rfl
  · exact (World.cell?_alloc_at _ _ _ _ (by simp)).trans rfl
  · exact (World.cell?_alloc_at _ _ _ _ (by simp)).trans rfl
  · exact (World.cell?_alloc_at _ _ _ _ (by simp)).trans rfl
  · exact (World.cell?_alloc_at _ _ _ _ (by simp)).trans rfl
  · exact (World.cell?_alloc_at _ _ _ _ (by simp)).trans rfl
  · exact (World.cell?_alloc_at _ _ _ _ (by simp)).trans rfl
  · exact (World.cell?_alloc_at _ _ _ _ (by simp)).trans rfl
  · exact (World.cell?_alloc_at _ _ _ _ (by simp)).trans rfl
  · exact (World.cell?_alloc_at _ _ _ _ (by simp)).trans rfl
  · exact (World.cell?_alloc_at _ _ _ _ (by simp)).trans rfl
  · exact (World.cell?_alloc_at _ _ _ _ (by simp)).trans rfl
  · exact (World.cell?_alloc_at _ _ _ _ (by simp)).trans rfl
  · exact (World.cell?_alloc_at _ _ _ _ (by simp)).trans rfl
  · exact (World.cell?_alloc_at _ _ _ _ (by simp)).trans rfl
  · exact (World.cell?_alloc_at _ _ _ _ (by simp)).trans rfl
  · exact (World.cell?_alloc_at _ _ _ _ (by simp)).trans rfl
  · exact (World.cell?_alloc_at _ _ _ _ (by simp)).trans rfl
  · exact (World.cell?_alloc_at _ _ _ _ (by simp)).trans rfl
  · exact (World.cell?_alloc_at _ _ _ _ (by simp)).trans rfl
  · exact (World.cell?_alloc_at _ _ _ _ (by simp)).trans rfl
  · exact (World.cell?_alloc_at _ _ _ _ (by simp)).trans rfl
  · exact (World.cell?_alloc_at _ _ _ _ (by simp)).trans rfl
  · exact (World.cell?_alloc_at _ _ _ _ (by simp)).trans rfl
  · exact (World.cell?_alloc_at _ _ _ _ (by simp)).trans rfl
  · exact (World.cell?_alloc_at _ _ _ _ (by simp)).trans rfl
  · exact (World.cell?_alloc_at _ _ _ _ (by simp)).trans rfl
  · exact (World.cell?_alloc_at _ _ _ _ (by simp)).trans rfl
  · exact (World.cell?_alloc_at _ _ _ _ (by simp)).trans rfl
  · exact (World.cell?_alloc_at _ _ _ _ (by simp)).trans rfl
  · exact (World.cell?_alloc_at _ _ _ _ (by simp)).trans rfl
  · exact (World.cell?_alloc_at _ _ _ _ (by simp)).trans rfl
  · exact (World.cell?_alloc_at _ _ _ _ (by simp)).trans rfl
  · exact (World.cell?_alloc_at _ _ _ _ (by simp)).trans rfl
  · exact (World.cell?_alloc_at _ _ _ _ (by simp)).trans rfl
  · exact (World.cell?_alloc_at _ _ _ _ (by simp)).trans rfl
  · exact (World.cell?_alloc_at _ _ _ _ (by simp)).trans rfl
  · exact (World.cell?_alloc_at _ _ _ _ (by simp)).trans rfl
  · exact (World.cell?_alloc_at _ _ _ _ (by simp)).trans rfl
  · exact (World.cell?_alloc_at _ _ _ _ (by simp)).trans rfl
  · exact (World.cell?_alloc_at _ _ _ _ (by simp)).trans rfl
  · exact (World.cell?_alloc_at _ _ _ _ (by simp)).trans rfl
  · exact (World.cell?_alloc_at _ _ _ _ (by simp)).trans rfl
  · exact (World.cell?_alloc_at _ _ _ _ (by simp)).trans rfl
set_option maxRecDepth 100000 in
set_option maxHeartbeats 4000000 in
theorem ops_c (w : World) : Calls Tryd.prog 56 #[] w fun e w' => e = .returned (.slice (some ⟨w.heap.size + 6, 0, none⟩) 31 31) ∧ OpTab w.heap.size w' ∧ Below w.heap.size w w' := by
  go_enter Tryd.func56, Tryd.ntmps56
  go_wp2_with fail
  go_ret
  refine ⟨rfl, optab_new w, ?_⟩
  repeat' first | exact Below.refl _ _ | refine Below.alloc ?_ ?_ _ | (simp; done) | (simp; omega)

theorem OpTab.at {n : Nat} {w : World} (h : OpTab n w) : ∀ i, i < 31 → w.cell? ⟨n + 6, i * 2, none⟩ = some (.string (nam i)) ∧ w.cell? ⟨n + 6, i * 2 + 1, none⟩ = some (osl n i)
  | 0, _ => ⟨h.s0, h.o0⟩
  | 1, _ => ⟨h.s1, h.o1⟩
  | 2, _ => ⟨h.s2, h.o2⟩
  | 3, _ => ⟨h.s3, h.o3⟩
  | 4, _ => ⟨h.s4, h.o4⟩
  | 5, _ => ⟨h.s5, h.o5⟩
  | 6, _ => ⟨h.s6, h.o6⟩
  | 7, _ => ⟨h.s7, h.o7⟩
  | 8, _ => ⟨h.s8, h.o8⟩
  | 9, _ => ⟨h.s9, h.o9⟩
  | 10, _ => ⟨h.s10, h.o10⟩
  | 11, _ => ⟨h.s11, h.o11⟩
  | 12, _ => ⟨h.s12, h.o12⟩
  | 13, _ => ⟨h.s13, h.o13⟩
  | 14, _ => ⟨h.s14, h.o14⟩
  | 15, _ => ⟨h.s15, h.o15⟩
  | 16, _ => ⟨h.s16, h.o16⟩
  | 17, _ => ⟨h.s17, h.o17⟩
  | 18, _ => ⟨h.s18, h.o18⟩
  | 19, _ => ⟨h.s19, h.o19⟩
  | 20, _ => ⟨h.s20, h.o20⟩
  | 21, _ => ⟨h.s21, h.o21⟩
  | 22, _ => ⟨h.s22, h.o22⟩
  | 23, _ => ⟨h.s23, h.o23⟩
  | 24, _ => ⟨h.s24, h.o24⟩
  | 25, _ => ⟨h.s25, h.o25⟩
  | 26, _ => ⟨h.s26, h.o26⟩
  | 27, _ => ⟨h.s27, h.o27⟩
  | 28, _ => ⟨h.s28, h.o28⟩
  | 29, _ => ⟨h.s29, h.o29⟩
  | 30, _ => ⟨h.s30, h.o30⟩
  | i + 31, hi => by omega
end Go.Proofs.YtpgjmegecfaijaaDoor
