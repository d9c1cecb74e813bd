/-
  The reference's word, get, with, inRange, Valid.
-/
import Derived.Test.YtdfconiahfdhbaaDoorVal
import Derived.Laws.OwnMore
import Derived.OwnWalk
namespace Go.Proofs.YtdfconiahfdhbaaDoor
open Go.RowKit
attribute [local go_sem ↓] Go.wp_at_zero Go.wp_at_succ

/-- a slice of ints -/
structure Nts (w : World) (A : Option Addr) (l : List Int) : Prop where
  at_ : ∀ j z, l[j]? = some z → ∃ ad, A = some ad ∧ ad.block < w.heap.size ∧ w.cell? (ad.add j) = some (.int .i64 z)
theorem Nts.next {w w' : World} {A : Option Addr} {l : List Int} (h : Nts w A l) (hb : Below w.heap.size w w') : Nts w' A l :=
  ⟨fun j z hj => by
    obtain ⟨ad, e, hl, hc⟩ := h.at_ j z hj
    exact ⟨ad, e, Nat.lt_of_lt_of_le hl hb.size, (hb.cell (by rw [block_of_add]; exact hl)).trans hc⟩⟩
theorem Nts.new (w : World) (l : List Int) (t : TypeId) : Nts (w.alloc (.cells (l.map (Value.int .i64)).toArray t)) (some ⟨w.heap.size, 0, none⟩) l :=
  ⟨fun j z hj => ⟨_, rfl, by simp, by
    have : (⟨w.heap.size, 0, none⟩ : Addr).add j = ⟨w.heap.size, j, none⟩ := by unfold Addr.add; split <;> simp_all
    rw [this, World.cell?_alloc_at _ _ _ _ rfl]
    simp [hj]⟩⟩
/-- the reference's number of a field -/
def rc (f : Int) : Int := if f = 0 then 1 else if f = 1 then 2 else if f = 4 then 4 else 3
def WordP (k : Int) (w : World) (e : Ending) (w' : World) : Prop := ∃ A cap, e = .returned (.tuple #[.string ⟨(kindW k.toNat).toArray⟩, .slice A ((kindF k.toNat).map rc).length cap]) ∧ Nts w' A ((kindF k.toNat).map rc) ∧ Below w.heap.size w w'
theorem word_mk {k : Int} {w : World} {l : List Int} {s : ByteArray} (hs : s = ⟨(kindW k.toNat).toArray⟩) (hl : (kindF k.toNat).map rc = l) (t : TypeId) : WordP k w (.returned (.tuple #[.string s, .slice (some ⟨w.heap.size, 0, none⟩) l.length l.length])) (w.alloc (.cells (l.map (Value.int .i64)).toArray t)) := by
  subst hs
  refine ⟨some ⟨w.heap.size, 0, none⟩, l.length, ?_, ?_, ba w _⟩
  · rw [hl]
  · rw [hl]; exact Nts.new w l t
theorem kind_out {k : Int} (h : ¬ (1 ≤ k ∧ k < 13)) : kindW k.toNat = [] ∧ kindF k.toNat = [] := by
  by_cases h0 : k.toNat = 0
  · rw [h0]; exact ⟨rfl, rfl⟩
  · have : kindsL.length ≤ k.toNat := by show 13 ≤ k.toNat; omega
    unfold kindW kindF
    rw [List.getD_eq_getElem?_getD, List.getElem?_eq_none this]
    exact ⟨rfl, rfl⟩
set_option maxRecDepth 100000 in
set_option maxHeartbeats 4000000 in
theorem word_c (k : Int) (w : World) : Calls Tryd.prog 28 #[.int .i64 k] w (WordP k w) := by
  by_cases h : 1 ≤ k ∧ k < 13
  · have hc : k = 1 ∨ k = 2 ∨ k = 3 ∨ k = 4 ∨ k = 5 ∨ k = 6 ∨ k = 7 ∨ k = 8 ∨ k = 9 ∨ k = 10 ∨ k = 11 ∨ k = 12 := by omega
    clear h
    rcases hc with rfl | rfl | rfl | rfl | rfl | rfl | rfl | rfl | rfl | rfl | rfl | rfl
    · have HW := Lib.hid (fun W => @word_mk 1 W [3] ⟨#[98, 111, 111, 116]⟩ rfl rfl 3)
      go_enter Tryd.func28, Tryd.ntmps28
      go_wp2_with fail
      go_ret2
      exact HW.out _
    · have HW := Lib.hid (fun W => @word_mk 2 W [3] ⟨#[102, 97, 105, 108]⟩ rfl rfl 3)
      go_enter Tryd.func28, Tryd.ntmps28
      go_wp2_with fail
      go_ret2
      exact HW.out _
    · have HW := Lib.hid (fun W => @word_mk 3 W [1, 4] ⟨#[115, 116, 97, 114, 116]⟩ rfl rfl 3)
      go_enter Tryd.func28, Tryd.ntmps28
      go_wp2_with fail
      go_ret2
      exact HW.out _
    · have HW := Lib.hid (fun W => @word_mk 4 W [1, 2, 4] ⟨#[114, 101, 97, 100]⟩ rfl rfl 3)
      go_enter Tryd.func28, Tryd.ntmps28
      go_wp2_with fail
      go_ret2
      exact HW.out _
    · have HW := Lib.hid (fun W => @word_mk 5 W [1, 3] ⟨#[99, 111, 109, 109, 105, 116]⟩ rfl rfl 3)
      go_enter Tryd.func28, Tryd.ntmps28
      go_wp2_with fail
      go_ret2
      exact HW.out _
    · have HW := Lib.hid (fun W => @word_mk 6 W [1] ⟨#[101, 110, 100]⟩ rfl rfl 3)
      go_enter Tryd.func28, Tryd.ntmps28
      go_wp2_with fail
      go_ret2
      exact HW.out _
    · have HW := Lib.hid (fun W => @word_mk 7 W [2, 3, 4] ⟨#[111, 117, 116, 112, 117, 116]⟩ rfl rfl 3)
      go_enter Tryd.func28, Tryd.ntmps28
      go_wp2_with fail
      go_ret2
      exact HW.out _
    · have HW := Lib.hid (fun W => @word_mk 8 W [3, 4] ⟨#[114, 101, 99, 101, 105, 118, 101]⟩ rfl rfl 3)
      go_enter Tryd.func28, Tryd.ntmps28
      go_wp2_with fail
      go_ret2
      exact HW.out _
    · have HW := Lib.hid (fun W => @word_mk 9 W [1, 4] ⟨#[101, 120, 112, 105, 114, 101]⟩ rfl rfl 3)
      go_enter Tryd.func28, Tryd.ntmps28
      go_wp2_with fail
      go_ret2
      exact HW.out _
    · have HW := Lib.hid (fun W => @word_mk 10 W [3] ⟨#[117, 112, 100, 97, 116, 101]⟩ rfl rfl 3)
      go_enter Tryd.func28, Tryd.ntmps28
      go_wp2_with fail
      go_ret2
      exact HW.out _
    · have HW := Lib.hid (fun W => @word_mk 11 W [1, 2, 4, 3] ⟨#[100, 114, 111, 112]⟩ rfl rfl 3)
      go_enter Tryd.func28, Tryd.ntmps28
      go_wp2_with fail
      go_ret2
      exact HW.out _
    · have HW := Lib.hid (fun W => @word_mk 12 W [1, 2, 4, 3] ⟨#[115, 101, 110, 100]⟩ rfl rfl 3)
      go_enter Tryd.func28, Tryd.ntmps28
      go_wp2_with fail
      go_ret2
      exact HW.out _
  · obtain ⟨h1, h2⟩ := kind_out h
    have q : ∀ i : Int, 1 ≤ i → i < 13 → (k == i) = false := fun i a b => by simp; omega
    have q1 := q 1 (by omega) (by omega)
    have q2 := q 2 (by omega) (by omega)
    have q3 := q 3 (by omega) (by omega)
    have q4 := q 4 (by omega) (by omega)
    have q5 := q 5 (by omega) (by omega)
    have q6 := q 6 (by omega) (by omega)
    have q7 := q 7 (by omega) (by omega)
    have q8 := q 8 (by omega) (by omega)
    have q9 := q 9 (by omega) (by omega)
    have q10 := q 10 (by omega) (by omega)
    have q11 := q 11 (by omega) (by omega)
    have q12 := q 12 (by omega) (by omega)
    have HO := Lib.hid (And.intro h1 h2)
    clear q h h1 h2
    go_enter Tryd.func28, Tryd.ntmps28
    go_wp2_with fail
    go_ret2
    refine ⟨none, 0, ?_, ⟨fun j z hj => ?_⟩, Below.refl _ _⟩
    · rw [HO.out.1, HO.out.2]; rfl
    · rw [HO.out.2] at hj; simp at hj
/-- the range of a field, by the reference -/
def okR (k f n : Int) : Bool := if f = 1 ∨ f = 2 then decide (0 ≤ n ∧ n ≤ 7) else if f = 3 then decide (0 ≤ n ∧ n ≤ 1099511627776) && decide (k ≠ 5 ∨ n < 120) else decide (-32768 ≤ n ∧ n ≤ 32767)
theorem okR_rc {k : Int} (hk : 1 ≤ k ∧ k < 13) {f : Int} (hf : f ∈ kindF k.toNat) (n : Int) : okR k (rc f) n = okF f n := by
  have hd : ∀ m, m < 13 → ∀ f ∈ kindF m, (f = 3 → m = 5) ∧ (f = 2 → m ≠ 5) := by decide
  have hF := kindF_isF k.toNat (by omega) f hf
  obtain ⟨d3, d2⟩ := hd k.toNat (by omega) f hf
  unfold okR okF rc
  rcases hF with rfl | rfl | rfl | rfl | rfl
  · simp
  · simp
  · have h5 : k ≠ 5 := by have := d2 rfl; omega
    simp [h5]
  · have h5 : k = 5 := by have := d3 rfl; omega
    subst h5
    rw [Bool.eq_iff_iff]
    simp
    omega
  · simp
theorem isF_rc {f : Int} (h : isF f) : rc f = 1 ∨ rc f = 2 ∨ rc f = 3 ∨ rc f = 4 := by
  rcases h with rfl | rfl | rfl | rfl | rfl <;> decide
theorem inRange_c (k f n : Int) (hf : f = 1 ∨ f = 2 ∨ f = 3 ∨ f = 4) (w : World) : Calls Tryd.prog 29 #[.int .i64 k, .int .i64 f, .int .i64 n] w fun r w' => r = .returned (.bool (okR k f n)) ∧ w = w' := by
  rcases hf with rfl | rfl | rfl | rfl
  · go_enter Tryd.func29, Tryd.ntmps29
    go_wp2_with fail
    all_goals go_ret
    all_goals exact ⟨ret_bool (by unfold okR; simp; try omega), rfl⟩
  · go_enter Tryd.func29, Tryd.ntmps29
    go_wp2_with fail
    all_goals go_ret
    all_goals exact ⟨ret_bool (by unfold okR; simp; try omega), rfl⟩
  · by_cases h5 : k = 5
    · have t5 : (k != 5) = false := by simp [h5]
      have t5' : (k == 5) = true := by simp [h5]
      have H5 := Lib.hid h5
      clear h5
      go_enter Tryd.func29, Tryd.ntmps29
      go_wp2_with fail
      all_goals go_ret
      all_goals exact ⟨ret_bool (by have := H5.out; subst this; unfold okR; simp; try omega), rfl⟩
    · have t5 : (k != 5) = true := by simp [h5]
      have t5' : (k == 5) = false := by simp [h5]
      have H5 := Lib.hid h5
      clear h5
      go_enter Tryd.func29, Tryd.ntmps29
      go_wp2_with fail
      all_goals go_ret
      all_goals exact ⟨ret_bool (by have h5 := H5.out; unfold okR; simp [h5]; try omega), rfl⟩
  · go_enter Tryd.func29, Tryd.ntmps29
    go_wp2_with fail
    all_goals go_ret
    all_goals exact ⟨ret_bool (by unfold okR; simp; try omega), rfl⟩
set_option maxRecDepth 100000 in
theorem rget_c (e : Ev) (h : InE e) (f : Int) (hf : isF f) (w : World) : Calls Tryd.prog 30 #[.agg #[.int .i64 e.kind, .int .i64 e.time, .int .i64 e.task, .int .i64 e.n, .int .i16 e.value, .int .i64 e.port], .int .i64 (rc f)] w fun r w' => r = .returned (.int .i64 (getE e f)) ∧ Below w.heap.size w w' := by
  have K := EX.start w e 26
  have h1 : IntKind.i64.wrap e.task = e.task := IntWalk.i64_in _ (by have := h.task.1; have := h.task.2; omega)
  have h2 : IntKind.i64.wrap e.port = e.port := IntWalk.i64_in _ (by have := h.port.1; have := h.port.2; omega)
  have h3 : IntKind.i64.wrap e.value = e.value := IntWalk.i64_in _ (by have := h.value.1; have := h.value.2; omega)
  obtain ⟨_, c0, c1, c2, c3, c4, c5, _⟩ := K
  rcases hf with rfl | rfl | rfl | rfl | rfl
  all_goals
    rw [show rc _ = _ from rfl]
    go_enter Tryd.func30, Tryd.ntmps30
    go_wp2_with fail
    go_ret
    exact ⟨ret_int (by simp [getE]), ba w _⟩
set_option maxRecDepth 100000 in
theorem with_c (e : Ev) (f n : Int) (hf : isF f) (hn : B64 n) (w : World) : Calls Tryd.prog 31 #[.agg #[.int .i64 e.kind, .int .i64 e.time, .int .i64 e.task, .int .i64 e.n, .int .i16 e.value, .int .i64 e.port], .int .i64 (rc f), .int .i64 n] w fun r w' => r = .returned (setE e f n).v ∧ Below w.heap.size w w' := by
  have K := EX.start w e 26
  have h1 : IntKind.i64.wrap n = n := IntWalk.i64_in _ (by have := hn.1; have := hn.2; omega)
  obtain ⟨_, c0, c1, c2, c3, c4, c5, fr⟩ := K
  have f2 := fr 2
  have f3 := fr 3
  have f4 := fr 4
  have f5 := fr 5
  clear fr
  rcases hf with rfl | rfl | rfl | rfl | rfl
  all_goals
    rw [show rc _ = _ from rfl]
    go_enter Tryd.func31, Tryd.ntmps31
    go_wp2_with fail
    exact bodyPost_ret (v := (setE e _ n).v) (by simp [results, Tryd.results31, go_sem, setE, Ev.v, *]) rfl ⟨rfl, by
      have K0 := ba w (.cells #[.int .i64 e.kind, .int .i64 e.time, .int .i64 e.task, .int .i64 e.n, .int .i16 e.value, .int .i64 e.port] 26)
      repeat' first | exact K0 | refine Below.drew ?_ | refine Below.setCell ?_ ?_ _ | refine Below.alloc ?_ ?_ _ | exact Below.refl _ _ | (simp; done) | omega⟩
end Go.Proofs.YtdfconiahfdhbaaDoor
