/-
  Encode and Decode of isa and of trickleref11.
-/
import Derived.Test.YtpgjmegecfaijaaDoorRefV
namespace Go.Proofs.YtpgjmegecfaijaaDoor
open Go.RowKit

theorem index_c (sa : Option Addr) (l : List Int) (hl : l.length ≤ 3) (o : Int) (w : World) (L : Lst w sa l) : Calls Tryd.prog 63 #[.slice sa l.length l.length, .int .i64 o] w fun e w' => ∃ r : Int, e = .returned (.int .i64 r) ∧ (0 ≤ r ↔ o ∈ l) ∧ w' = w := by
  have LL := Lib.hid L.at_
  clear L
  have hl3 : (l.length : Int) ≤ 3 := by omega
  go_enter Tryd.func63, Tryd.ntmps63
  go_wp2_with fail
  go_loop [8] (fun i => ∃ k : Nat, k ≤ l.length ∧ i = .int .i64 k ∧ o ∉ l.take k) (fun i => l.length - (intOf i).toNat)
  case atStart => exact ⟨0, by omega, rfl, by simp⟩
  case round =>
    obtain ⟨k, hk, rfl, hn⟩ := hrel
    have HN := Lib.hid hn
    clear hn
    by_cases hlt : k < l.length
    · obtain ⟨b, rfl, hbl, hcell⟩ := LL.out k _ (List.getElem?_eq_getElem hlt)
      by_cases he : o = l[k]
      · have HE := Lib.hid he
        go_wp2_with fail
        go_ret
        refine ⟨(k : Int), rfl, ?_, rfl⟩
        first | omega | exact Iff.intro (fun _ => by rw [HE.out]; exact List.getElem_mem hlt) (fun _ => by omega)
      · have HE := Lib.hid he
        go_wp2_with fail
        go_round
        case rel =>
          refine ⟨k + 1, by omega, by go_num, ?_⟩
          rw [List.take_succ_eq_append_getElem hlt, List.mem_append, List.mem_singleton]
          exact fun h => h.elim HN.out HE.out
        case measure => simp [intOf]; omega
    · obtain rfl : k = l.length := by omega
      have hf := HN.out
      rw [List.take_length] at hf
      have HF := Lib.hid hf
      clear hf
      go_wp2_with fail
      go_ret
      exact ⟨_, rfl, ⟨fun h => by omega, fun h => absurd h HF.out⟩, rfl⟩
theorem contains_c (sa : Option Addr) (l : List Int) (hl : l.length ≤ 3) (o : Int) (w : World) (L : Lst w sa l) : Calls Tryd.prog 44 #[.slice sa l.length l.length, .int .i64 o] w fun e w' => e = .returned (.bool (decide (o ∈ l))) ∧ w' = w := by
  go_enter Tryd.func44, Tryd.ntmps44
  go_wp2_with fail
  refine (index_c sa l hl o _ L).mono ?_
  rintro e w1 ⟨r, rfl, hr, rfl⟩
  have HR := Lib.hid hr
  clear hr
  go_wp2_with fail
  go_ret
  exact ⟨ret_bool (by rw [decide_eq_decide]; exact HR.out), rfl⟩

theorem vld_bounds {op a b c m : Int} (h : vld op a b c m = true) : (1 ≤ op ∧ op ≤ 30) ∧ (0 ≤ a ∧ a < 8) ∧ (0 ≤ b ∧ b < 8) ∧ (0 ≤ c ∧ c < 8) := by
  have ho : 1 ≤ op ∧ op ≤ 30 := by
    by_cases h1 : 1 ≤ op ∧ op ≤ 30
    · exact h1
    · rw [vld_out (by omega)] at h; exact absurd h (by simp)
  rw [vld_eq ho] at h
  simp only [Bool.and_eq_true] at h
  have key : ∀ o x, reg op.toNat o x = true → 0 ≤ x ∧ x < 8 := by
    intro o x hx
    unfold reg at hx
    split at hx <;> simp at hx <;> omega
  exact ⟨ho, key _ _ h.1, key _ _ h.2.1, key _ _ h.2.2.1⟩

/-- a block of four bytes -/
structure Byt (B : Nat) (x y z u : Int) (w : World) : Prop where
  lt : B < w.heap.size
  c0 : w.cell? ⟨B, 0, none⟩ = some (.int .u8 x)
  c1 : w.cell? ⟨B, 1, none⟩ = some (.int .u8 y)
  c2 : w.cell? ⟨B, 2, none⟩ = some (.int .u8 z)
  c3 : w.cell? ⟨B, 3, none⟩ = some (.int .u8 u)
  f0 : w.frozen? ⟨B, 0, none⟩ = false
  f1 : w.frozen? ⟨B, 1, none⟩ = false
  f2 : w.frozen? ⟨B, 2, none⟩ = false
  f3 : w.frozen? ⟨B, 3, none⟩ = false
theorem Byt.next {B : Nat} {x y z u : Int} {w w1 : World} (h : Byt B x y z u w) (hb : Below w.heap.size w w1) : Byt B x y z u w1 := by
  have k := (bcell hb).1
  have q := (bcell hb).2
  have l := h.lt
  exact ⟨Nat.lt_of_lt_of_le l hb.size, (k _ _ l).trans h.c0, (k _ _ l).trans h.c1, (k _ _ l).trans h.c2, (k _ _ l).trans h.c3, (q _ _ l).trans h.f0, (q _ _ l).trans h.f1, (q _ _ l).trans h.f2, (q _ _ l).trans h.f3⟩
theorem Byt.new {w : World} (x y z u : Int) (t : TypeId) : Byt w.heap.size x y z u (w.alloc (.cells #[.int .u8 x, .int .u8 y, .int .u8 z, .int .u8 u] t)) := by
  constructor
  · simp
  all_goals first | exact (World.cell?_alloc_at _ _ _ _ rfl).trans rfl | exact World.frozen?_alloc_at _ _ _ _ rfl

abbrev four (x y z u : Int) : Value := .agg #[.int .u8 x, .int .u8 y, .int .u8 z, .int .u8 u]
def encN (op c m : Int) : Int := if (2 : Int) ∈ shp op.toNat then c else m % 65536
theorem ret_four {x y z u x' y' z' u' n : Int} (h1 : x = x') (h2 : y = y') (h3 : z = z') (h4 : u = u') : Ending.returned (.tuple #[four x y z u, .int .i64 n]) = .returned (.tuple #[four x' y' z' u', .int .i64 n]) := by rw [h1, h2, h3, h4]

theorem enc_no (op a b c m : Int) (hm : -32768 ≤ m ∧ m ≤ 32767) (hv : vld op a b c m = false) (w : World) : Calls Tryd.prog 14 #[code op a b c m] w fun e w' => e = .returned (.tuple #[four 0 0 0 0, .int .i64 1]) ∧ Below w.heap.size w w' := by
  have HV := Lib.hid hv
  clear hv
  go_enter Tryd.func14, Tryd.ntmps14
  go_wp2_with fail
  have B0 := Byt.new (w := w.alloc (.cells #[.int .i64 op, .int .i64 a, .int .i64 b, .int .i64 c, .int .i16 m] 24)) 0 0 0 0 27
  refine (valid_c op a b c m hm _).mono ?_
  rintro e w1 ⟨rfl, hb1⟩
  rw [HV.out]
  replace B0 := B0.next hb1
  simp only [World.size_alloc] at B0
  obtain ⟨lt, c0, c1, c2, c3, f0, f1, f2, f3⟩ := B0
  have k1 : Below w.heap.size w w1 := bt (bt (ba w _) (ba _ _)) hb1
  go_wp2_with fail
  refine bodyPost_ret (v := .tuple #[four 0 0 0 0, .int .i64 1]) (by simp [results, Tryd.results14, go_sem, *]) rfl ⟨rfl, ?_⟩
  repeat' first | exact k1 | refine Below.setCell ?_ ?_ _ | (simp; done)

theorem enc_ok (op a b c m : Int) (hm : -32768 ≤ m ∧ m ≤ 32767) (hv : vld op a b c m = true) (w : World) : Calls Tryd.prog 14 #[code op a b c m] w fun e w' => e = .returned (.tuple #[four op (a + 16 * b) (encN op c m % 256) (encN op c m / 256), .int .i64 0]) ∧ Below w.heap.size w w' := by
  have HV := Lib.hid hv
  obtain ⟨⟨o0, o1⟩, ⟨a0, a1⟩, ⟨b0, b1⟩, c0, c1⟩ := vld_bounds hv
  clear hv
  go_enter Tryd.func14, Tryd.ntmps14
  go_wp2_with fail
  have B0 := Byt.new (w := w.alloc (.cells #[.int .i64 op, .int .i64 a, .int .i64 b, .int .i64 c, .int .i16 m] 24)) 0 0 0 0 27
  have C0 := (Cod.new (w := w) op a b c m 24).next (ba _ (.cells #[.int .u8 0, .int .u8 0, .int .u8 0, .int .u8 0] 27))
  refine (valid_c op a b c m hm _).mono ?_
  rintro e w1 ⟨rfl, hb1⟩
  rw [HV.out]
  replace B0 := B0.next hb1
  replace C0 := C0.next hb1
  simp only [World.size_alloc] at B0
  have k1 : Below w.heap.size w w1 := bt (bt (ba w _) (ba _ _)) hb1
  clear hb1
  obtain ⟨lt, c0', c1', c2', c3', c4', f0, f1, f2, f3, f4⟩ := id C0
  go_wp2_with fail
  refine (describe_in op o0 o1 _).mono ?_
  rintro e w2 ⟨n, rfl, hn, T, hb2⟩
  obtain ⟨sa, hsa, L⟩ := T.lst op.toNat (by omega)
  rw [hsa]
  clear hsa hn T
  clear lt c0' c1' c2' c3' c4' f0 f1 f2 f3 f4
  replace B0 := B0.next hb2
  replace C0 := C0.next hb2
  have k2 := bt k1 hb2
  clear hb2
  go_wp2_with fail
  refine (contains_c sa _ (shp_len _) 2 _ (L.next (ba w2 _))).mono ?_
  rintro e w3 ⟨rfl, rfl⟩
  replace B0 := B0.next (ba w2 (.cells #[.string (nam op.toNat), .slice sa (shp op.toNat).length (shp op.toNat).length] 46))
  replace C0 := C0.next (ba w2 (.cells #[.string (nam op.toNat), .slice sa (shp op.toNat).length (shp op.toNat).length] 46))
  replace k2 := bt k2 (ba w2 (.cells #[.string (nam op.toNat), .slice sa (shp op.toNat).length (shp op.toNat).length] 46))
  generalize (w2.alloc (.cells #[.string (nam op.toNat), .slice sa (shp op.toNat).length (shp op.toNat).length] 46)) = w4 at *
  obtain ⟨lt, c0', c1', c2', c3', c4', f0, f1, f2, f3, f4⟩ := C0
  obtain ⟨lt', d0, d1, d2, d3, g0, g1, g2, g3⟩ := B0
  by_cases h : (2 : Int) ∈ shp op.toNat
  · have HN := Lib.hid (show encN op c m = c from by unfold encN; rw [if_pos h])
    go_wp2_with fail
    refine bodyPost_ret (v := .tuple #[four op (a + 16 * b) c (c / 256), .int .i64 0]) (by simp [results, Tryd.results14, go_sem, *]) rfl ⟨ret_four rfl rfl (by rw [HN.out]; omega) (by rw [HN.out]), ?_⟩
    repeat' first | exact k2 | refine Below.setCell ?_ ?_ _ | (simp; done)
  · have HN := Lib.hid (show encN op c m = m % 65536 from by unfold encN; rw [if_neg h])
    go_wp2_with fail
    refine bodyPost_ret (v := .tuple #[four op (a + 16 * b) (IntKind.u16.wrap m % 256) (IntKind.u16.wrap m / 256 % 256), .int .i64 0]) (by simp [results, Tryd.results14, go_sem, *]) rfl ⟨ret_four rfl rfl (by rw [HN.out, wrap_u16]) (by rw [HN.out, wrap_u16]; omega), ?_⟩
    repeat' first | exact k2 | refine Below.setCell ?_ ?_ _ | (simp; done)

theorem renc_no (op a b c m : Int) (hm : -32768 ≤ m ∧ m ≤ 32767) (hv : vld op a b c m = false) (w : World) : Calls Tryd.prog 15 #[code op a b c m] w fun e w' => e = .returned (.tuple #[four 0 0 0 0, .int .i64 1]) ∧ Below w.heap.size w w' := by
  have HV := Lib.hid hv
  clear hv
  go_enter Tryd.func15, Tryd.ntmps15
  go_wp2_with fail
  have B0 := Byt.new (w := w.alloc (.cells #[.int .i64 op, .int .i64 a, .int .i64 b, .int .i64 c, .int .i16 m] 24)) 0 0 0 0 27
  refine (rvalid_c op a b c m hm _).mono ?_
  rintro e w1 ⟨rfl, hb1⟩
  rw [HV.out]
  replace B0 := B0.next hb1
  simp only [World.size_alloc] at B0
  obtain ⟨lt, c0, c1, c2, c3, f0, f1, f2, f3⟩ := B0
  have k1 : Below w.heap.size w w1 := bt (bt (ba w _) (ba _ _)) hb1
  go_wp2_with fail
  refine bodyPost_ret (v := .tuple #[four 0 0 0 0, .int .i64 1]) (by simp [results, Tryd.results15, go_sem, *]) rfl ⟨rfl, ?_⟩
  repeat' first | exact k1 | refine Below.setCell ?_ ?_ _ | (simp; done)

theorem renc_ok (op a b c m : Int) (hm : -32768 ≤ m ∧ m ≤ 32767) (hv : vld op a b c m = true) (w : World) : Calls Tryd.prog 15 #[code op a b c m] w fun e w' => e = .returned (.tuple #[four op (a + 16 * b) (encN op c m % 256) (encN op c m / 256), .int .i64 0]) ∧ Below w.heap.size w w' := by
  have HV := Lib.hid hv
  obtain ⟨⟨o0, o1⟩, ⟨a0, a1⟩, ⟨b0, b1⟩, c0, c1⟩ := vld_bounds hv
  clear hv
  go_enter Tryd.func15, Tryd.ntmps15
  go_wp2_with fail
  have B0 := Byt.new (w := w.alloc (.cells #[.int .i64 op, .int .i64 a, .int .i64 b, .int .i64 c, .int .i16 m] 24)) 0 0 0 0 27
  have C0 := (Cod.new (w := w) op a b c m 24).next (ba _ (.cells #[.int .u8 0, .int .u8 0, .int .u8 0, .int .u8 0] 27))
  refine (rvalid_c op a b c m hm _).mono ?_
  rintro e w4 ⟨rfl, hb1⟩
  rw [HV.out]
  replace B0 := B0.next hb1
  replace C0 := C0.next hb1
  simp only [World.size_alloc] at B0
  have k2 : Below w.heap.size w w4 := bt (bt (ba w _) (ba _ _)) hb1
  clear hb1
  obtain ⟨lt, c0', c1', c2', c3', c4', f0, f1, f2, f3, f4⟩ := C0
  obtain ⟨lt', d0, d1, d2, d3, g0, g1, g2, g3⟩ := B0
  go_wp2_with fail
  refine (shape_c op _).mono ?_
  rintro e w2 ⟨rfl, rfl⟩
  go_wp2_with fail
  refine (has_2 op.toNat _).mono ?_
  rintro e w2 ⟨rfl, rfl⟩
  by_cases h : (2 : Int) ∈ shp op.toNat
  · have HN := Lib.hid (show encN op c m = c from by unfold encN; rw [if_pos h])
    go_wp2_with fail
    refine bodyPost_ret (v := .tuple #[four op (a + 16 * b) c (c / 256), .int .i64 0]) (by simp [results, Tryd.results15, go_sem, *]) rfl ⟨ret_four rfl rfl (by rw [HN.out]; omega) (by rw [HN.out]), ?_⟩
    repeat' first | exact k2 | refine Below.setCell ?_ ?_ _ | (simp; done)
  · have HN := Lib.hid (show encN op c m = m % 65536 from by unfold encN; rw [if_neg h])
    go_wp2_with fail
    refine bodyPost_ret (v := .tuple #[four op (a + 16 * b) (IntKind.u16.wrap m % 256) (IntKind.u16.wrap m / 256 % 256), .int .i64 0]) (by simp [results, Tryd.results15, go_sem, *]) rfl ⟨ret_four rfl rfl (by rw [HN.out, wrap_u16]) (by rw [HN.out, wrap_u16]; omega), ?_⟩
    repeat' first | exact k2 | refine Below.setCell ?_ ?_ _ | (simp; done)
end Go.Proofs.YtpgjmegecfaijaaDoor
