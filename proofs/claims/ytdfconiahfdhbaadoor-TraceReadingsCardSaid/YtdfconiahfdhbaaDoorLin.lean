/-
  The line of an event: trace's line.
-/
import Derived.Test.YtdfconiahfdhbaaDoorRva
import Derived.Lib.ItoaLen
import Derived.Laws.Concat
namespace Go.Proofs.YtdfconiahfdhbaaDoor
open Go.RowKit
attribute [local go_sem ↓] Go.wp_at_zero Go.wp_at_succ

/-- what the walks need of the world -/
structure Rdy (w : World) : Prop where
  r : Ready w
  k : KTab w
theorem Rdy.next {w w' : World} (h : Rdy w) (hb : Below w.heap.size w w') : Rdy w' := ⟨h.r.below hb, h.k.next hb⟩
def headE (e : Ev) : List UInt8 := Lib.itoa e.time ++ [32] ++ kindW e.kind.toNat
def bodyE (e : Ev) (l : List Int) : List UInt8 := l.flatMap fun f => 32 :: Lib.itoa (getE e f)
/-- the line of an event, without and with its newline -/
def lineN (e : Ev) : List UInt8 := headE e ++ bodyE e (flds e)
def lineE (e : Ev) : List UInt8 := lineN e ++ [10]
theorem itoa_le {n : Int} (h : B64 n) : (Lib.itoa n).length ≤ 21 := Lib.itoa_length_le n h.1 h.2
theorem kindW_len : ∀ k, (kindW k).length ≤ 7 := by
  intro k
  by_cases h : k < 13
  · have : ∀ k, k < 13 → (kindW k).length ≤ 7 := by decide
    exact this k h
  · have h13 : kindsL.length ≤ k := by show 13 ≤ k; omega
    unfold kindW
    rw [List.getD_eq_getElem?_getD, List.getElem?_eq_none h13]
    simp
theorem headE_len {e : Ev} (h : InE e) : (headE e).length ≤ 29 := by
  have h1 := itoa_le h.time
  have h2 := kindW_len e.kind.toNat
  unfold headE
  simp
  omega
theorem bodyE_len {e : Ev} (h : InE e) (l : List Int) : (bodyE e l).length ≤ l.length * 22 := by
  induction l with
  | nil => simp [bodyE]
  | cons f l ih =>
    have h1 := itoa_le (getE_b h f)
    show ((32 :: Lib.itoa (getE e f)) ++ bodyE e l).length ≤ _
    rw [List.length_append, List.length_cons, List.length_cons]
    omega
theorem flds_len (e : Ev) : (flds e).length ≤ 4 := by
  unfold flds
  by_cases hk : 1 ≤ e.kind ∧ e.kind < 13
  · exact kindF_len e.kind.toNat (by omega)
  · rw [(kind_out hk).2]; decide
theorem bodyE_take {e : Ev} {l : List Int} {j : Nat} (hj : j < l.length) : bodyE e (l.take (j + 1)) = bodyE e (l.take j) ++ (32 :: Lib.itoa (getE e l[j])) := by
  unfold bodyE
  rw [List.take_succ_eq_append_getElem hj, List.flatMap_append]
  simp
/-- an event's cells in a world that is ready -/
structure EL (w : World) (e : Ev) (W : World) : Prop where
  below : Below w.heap.size w W
  rdy : Rdy W
  e : EX w.heap.size e W
theorem EL.next {w W W' : World} {e : Ev} (h : EL w e W) (hb : Below W.heap.size W W') : EL w e W' := ⟨bt h.below hb, h.rdy.next hb, h.e.next hb⟩
theorem EL.start (w : World) (e : Ev) (hr : Rdy w) (t : TypeId) : EL w e (w.alloc (.cells #[.int .i64 e.kind, .int .i64 e.time, .int .i64 e.task, .int .i64 e.n, .int .i16 e.value, .int .i64 e.port] t)) := ⟨ba w _, hr.next (ba w _), EX.start w e t⟩
theorem str32 (l m : List UInt8) : (⟨l.toArray⟩ : ByteArray) ++ (⟨#[32]⟩ ++ ⟨m.toArray⟩) = ⟨(l ++ 32 :: m).toArray⟩ := by
  rw [show (⟨#[32]⟩ : ByteArray) = ⟨([32] : List UInt8).toArray⟩ from rfl, bytes_append, bytes_append]; rfl
set_option maxRecDepth 100000 in
set_option maxHeartbeats 2000000 in
theorem line_c (e : Ev) (h : InE e) (hkn : 1 ≤ e.kind ∧ e.kind < 13) (w : World) (hr : Rdy w) : Calls Tryd.prog 33 #[e.v] w fun r w' => r = .returned (.string ⟨(lineE e).toArray⟩) ∧ Below w.heap.size w w' := by
  have K := EL.start w e hr 26
  have HK := Lib.hid K
  have b1 : (0 : Int) ≤ e.kind := by omega
  have b2 : e.kind < 13 := hkn.2
  have hkk : e.kind.toNat < 13 := by omega
  obtain ⟨hcw, A, cap, hcell, hat⟩ := hr.k.at_ e.kind.toNat hkk
  have hlt0 := World.block_lt_of_cell? _ _ hcell
  have HAT := Lib.hid hat
  have HCW := Lib.hid (And.intro hcw hcell)
  have l1 := itoa_le h.time
  have l2 := kindW_len e.kind.toNat
  have l3 := headE_len h
  have l5 := kindF_len e.kind.toNat hkk
  have hlen : ((kindF e.kind.toNat).length : Int) ≤ 4 := by omega
  have HL := Lib.hid (show lineE e = headE e ++ bodyE e (kindF e.kind.toNat) ++ [10] from rfl)
  have HB4 := Lib.hid (fun j => bodyE_len h ((kindF e.kind.toNat).take j))
  have HH := Lib.hid (show (⟨(headE e).toArray⟩ : ByteArray) = ⟨(Lib.itoa e.time).toArray⟩ ++ ⟨#[32]⟩ ++ ⟨(kindW e.kind.toNat).toArray⟩ from by
    rw [show (⟨#[32]⟩ : ByteArray) = ⟨([32] : List UInt8).toArray⟩ from rfl, bytes_append, bytes_append]; rfl)
  have r1 := fun W => run_string_add_sum (P := Tryd.prog) W ⟨(Lib.itoa e.time).toArray⟩ ⟨#[32]⟩ (by simp [ByteArray.size]; omega)
  have r2 := fun W => run_string_add_sum (P := Tryd.prog) W (⟨(Lib.itoa e.time).toArray⟩ ++ ⟨#[32]⟩) ⟨(kindW e.kind.toNat).toArray⟩ (by simp [ByteArray.size]; omega)
  have ht0 := h.time.1
  have ht1 := h.time.2
  unfold Ev.v
  clear hkn hat hcw hcell
  generalize kindF e.kind.toNat = M at *
  generalize kindW e.kind.toNat = ws at *
  go_enter Tryd.func33, Tryd.ntmps33
  go_wp2_with fail
  replace K := HK.out.next (World.drewB _)
  clear HK
  go_region_held3 (fun w' => w'.cell? ⟨w.heap.size, 0, none⟩ = some (.int .i64 e.kind) ∧ w'.cell? ⟨w.heap.size, 1, none⟩ = some (.int .i64 e.time) ∧ w'.cell? ⟨0, e.kind.toNat * 2, none⟩ = some (.string ⟨ws.toArray⟩)) (first | exact ⟨K.e.c0, K.e.c1, (K.below.cell (p := ⟨0, e.kind.toNat * 2, none⟩) hlt0).trans HCW.out.1⟩ | go_keep)
    (first | (go_at_call 45; (with_reducible refine (formatInt_c e.time ht0 ht1 _ K.rdy.r).mono ?_); rintro r w2 ⟨rfl, hb2⟩; replace K := K.next hb2))
  all_goals
    have HK2 := Lib.hid K
    have hcell := (K.below.cell (p := ⟨0, e.kind.toNat * 2 + 1, none⟩) hlt0).trans HCW.out.2
    obtain ⟨_, _, ⟨_, c0, _, _, _, _, _, _⟩⟩ := K
    rw [← HH.out]
    clear r1 r2
    go_wp2_with fail
    clear c0 hcell
    go_loopw [3, 22] (fun s i wr => ∃ j : Nat, j ≤ M.length ∧ i = .int .i64 j ∧ s = .string ⟨(headE e ++ bodyE e (M.take j)).toArray⟩ ∧ EL w e wr) (fun _ i _ => M.length - (intOf i).toNat)
    case atStart => exact ⟨0, by omega, rfl, by simp [bodyE], HK2.out⟩
    case round =>
      obtain ⟨j, hj, rfl, rfl, K⟩ := hrel
      have hb4 := HB4.out j
      rw [List.length_take] at hb4
      have hb5 : (headE e ++ bodyE e (M.take j)).length ≤ 120 := by rw [List.length_append]; omega
      clear hb4
      have HKJ := Lib.hid K
      by_cases hlt : j < M.length
      · obtain ⟨ad, rfl, had, hc⟩ := HAT.out j _ (List.getElem?_eq_getElem hlt)
        replace hc := (K.below.cell (by rw [block_of_add]; exact had)).trans hc
        have HBT := Lib.hid (bodyE_take (e := e) hlt)
        generalize M[j] = f at *
        have gb := getE_b h f
        have hg := itoa_le gb
        obtain ⟨_, _, ⟨_, c0, c1, c2, c3, c4, c5, _⟩⟩ := K
        go_wp2_with fail
        refine (get_l e h f _).mono ?_
        rintro r w3 ⟨rfl, hb3⟩
        have K3 := Lib.hid (HKJ.out.next hb3)
        clear hb3 c0 c1 c2 c3 c4 c5 hc
        go_wp2_with fail
        refine (formatInt_c (getE e f) gb.1 gb.2 _ K3.out.rdy.r).mono ?_
        rintro r w4 ⟨rfl, hb4⟩
        have K4 := Lib.hid (K3.out.next hb4)
        clear hb4 K3
        generalize bodyE e (M.take j) = bo at *
        have r3 := fun W => run_string_add_sum (P := Tryd.prog) W ⟨#[32]⟩ ⟨(Lib.itoa (getE e f)).toArray⟩ (by simp [ByteArray.size]; omega)
        have r4 := fun W => run_string_add_sum (P := Tryd.prog) W ⟨(headE e ++ bo).toArray⟩ (⟨#[32]⟩ ++ ⟨(Lib.itoa (getE e f)).toArray⟩) (by simp [ByteArray.size] at *; omega)
        rw [str32] at r4
        go_wp2_with fail
        go_roundw
        case rel => exact ⟨j + 1, by omega, by go_num, by rw [HBT.out], K4.out⟩
        case measure => simp [intOf]; omega
      · obtain rfl : j = M.length := by omega
        rw [List.take_length] at hb5 ⊢
        have r5 := fun W => run_string_add_sum (P := Tryd.prog) W ⟨(headE e ++ bodyE e M).toArray⟩ ⟨#[10]⟩ (by simp [ByteArray.size] at *; omega)
        go_wp2_with fail
        go_ret
        exact ⟨ret_str (by rw [HL.out, show (⟨#[10]⟩ : ByteArray) = ⟨([10] : List UInt8).toArray⟩ from rfl, bytes_append]), HKJ.out.below⟩
end Go.Proofs.YtdfconiahfdhbaaDoor
