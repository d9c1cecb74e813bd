/-
  isa.Parse: the instruction of a text.
-/
import Derived.Test.YtpgjmegecfaijaaDoorTxt
namespace Go.Proofs.YtpgjmegecfaijaaDoor
open Go.RowKit

theorem name_is (x nm : ByteArray) (v : Value) (B : Nat) (w : World) (hB : B < w.heap.size) (hc : w.cell? ⟨B, 0, none⟩ = some (.string nm)) : Calls Tryd.prog 57 #[.agg #[.string x, v], .pointer (some ⟨B, 0, none⟩)] w fun e w' => e = .returned (.bool (x.toList == nm.toList)) ∧ Below w.heap.size w w' := by
  go_enter Tryd.func57, Tryd.ntmps57
  go_wp2_with fail
  go_ret
  exact ⟨rfl, ba w _⟩
/-- what IndexFunc finds -/
def Fnd (nm : ByteArray) (w : World) (e : Ending) (w' : World) : Prop := ∃ r : Int, e = .returned (.int .i64 r) ∧ ((0 ≤ r ∧ r ≤ 30 ∧ nam r.toNat = nm) ∨ (r = -1 ∧ ∀ j, j < 31 → nam j ≠ nm)) ∧ Below w.heap.size w w'
theorem toList_eq {x y : ByteArray} (h : x.toList = y.toList) : x = y := by
  rw [ByteArray.toList_eq, ByteArray.toList_eq] at h
  exact bytes_ext h
theorem find_c (n B : Nat) (nm : ByteArray) (w : World) (T : OpTab n w) (hB : B < w.heap.size) (hc : w.cell? ⟨B, 0, none⟩ = some (.string nm)) : Calls Tryd.prog 55 #[.slice (some ⟨n + 6, 0, none⟩) 31 31, .func (.func 57) #[] #[.pointer (some ⟨B, 0, none⟩)]] w (Fnd nm w) := by
  have HT := Lib.hid T
  have HC := Lib.hid hc
  clear T hc
  go_enter Tryd.func55, Tryd.ntmps55
  go_wp2_with fail
  go_loopw [8] (fun i wr => ∃ k : Nat, k ≤ 31 ∧ i = .int .i64 k ∧ (∀ j, j < k → nam j ≠ nm) ∧ Below w.heap.size w wr) (fun i _ => 31 - (intOf i).toNat)
  case atStart => exact ⟨0, by omega, rfl, fun j hj => absurd hj (by omega), Below.refl _ _⟩
  case round =>
    obtain ⟨k, hk, rfl, hno, hbr⟩ := hrel
    have HN := Lib.hid hno
    clear hno
    by_cases hlt : k < 31
    · have hk2 : (k : Int) < 31 := by omega
      obtain ⟨hS, hO⟩ := (HT.out.next hbr).at k hlt
      obtain ⟨a, l, c, ho⟩ := osl_slice n k
      rw [ho] at hO
      have hcr := ((bcell hbr).1 B 0 hB).trans HC.out
      have HCR := Lib.hid hcr
      clear ho hcr
      go_wp2_with fail
      refine (name_is (nam k) nm _ B _ (Nat.lt_of_lt_of_le hB hbr.size) HCR.out).mono ?_
      rintro e w1 ⟨rfl, hb1⟩
      by_cases he : (nam k).toList = nm.toList
      · have HE := Lib.hid (toList_eq he)
        rw [show ((nam k).toList == nm.toList) = true from by rw [he]; simp]
        clear he
        go_wp2_with fail
        go_ret
        exact ⟨(k : Int), rfl, .inl ⟨by omega, by omega, by simpa using HE.out⟩, bt hbr hb1⟩
      · have HE := Lib.hid (show nam k ≠ nm from fun e => he (by rw [e]))
        rw [show ((nam k).toList == nm.toList) = false from by simpa using he]
        clear he
        go_wp2_with fail
        go_roundw
        case rel =>
          refine ⟨k + 1, by omega, by go_num, fun j hj => ?_, bt hbr hb1⟩
          by_cases hjk : j = k
          · subst hjk; exact HE.out
          · exact HN.out j (by omega)
        case measure => simp [intOf]; omega
    · obtain rfl : k = 31 := by omega
      go_wp2_with fail
      go_ret
      exact ⟨-1, rfl, .inr ⟨rfl, HN.out⟩, hbr⟩

theorem osl_new (n i : Nat) {b : Nat} {l c : Nat} (h : osl n i = .slice (some ⟨b, 0, none⟩) l c) : n ≤ b := by
  unfold osl at h
  split at h <;> simp at h <;> omega
/-- describe, with where the operands lie -/
theorem describe_new (op : Int) (h0 : 1 ≤ op) (h1 : op ≤ 30) (w : World) : Calls Tryd.prog 35 #[.int .i64 op] w fun e w' => ∃ sa, e = .returned (.tuple #[.agg #[.string (nam op.toNat), .slice sa (shp op.toNat).length (shp op.toNat).length], .bool true]) ∧ Lst w' sa (shp op.toNat) ∧ (∀ b, sa = some ⟨b, 0, none⟩ → w.heap.size ≤ b) ∧ Below w.heap.size w w' := by
  refine (describe_in op h0 h1 w).mono ?_
  rintro e w1 ⟨n, rfl, hn, T, hb⟩
  obtain ⟨sa, hsa, L⟩ := T.lst op.toNat (by omega)
  refine ⟨sa, by rw [hsa], L, fun b hb => ?_, hb⟩
  subst hb
  have := osl_new n op.toNat hsa
  omega
theorem fmt_any (op a b c m : Int) (hm : -32768 ≤ m ∧ m ≤ 32767) (w : World) (hr : TabR w) : Calls Tryd.prog 31 #[code op a b c m] w fun e w' => e = .returned (.string (if vld op a b c m = true then fmtS op a b c m else ⟨#[]⟩)) ∧ Below w.heap.size w w' := by
  cases hv : vld op a b c m
  · exact (fmt_no op a b c m hm hv w).mono fun _ _ ⟨he, hb⟩ => ⟨by rw [he]; rfl, hb⟩
  · exact (fmt_c op a b c m hm hv w hr).mono fun _ _ ⟨he, hb⟩ => ⟨by rw [he]; rfl, hb⟩

/-- what Parse answers -/
def Parsed (s : ByteArray) (w : World) (e : Ending) (w' : World) : Prop :=
  ((∃ op a b c m : Int, -32768 ≤ m ∧ m ≤ 32767 ∧ Txt s op a b c m ∧ e = .returned (.tuple #[code op a b c m, .int .i64 0])) ∨ ((∀ op a b c m : Int, -32768 ≤ m → m ≤ 32767 → ¬ Txt s op a b c m) ∧ e = .returned (.tuple #[code 0 0 0 0 0, .int .i64 2]))) ∧ Below w.heap.size w w'

/-- the state of Parse's loop -/
structure PS (w0 : World) (bx gl : Nat) (sa : Option Addr) (L : List ByteArray) (op a b c m : Int) (w : World) : Prop where
  below : Below w0.heap.size w0 w
  res : Cod w0.heap.size 0 0 0 0 0 w
  box : Cod bx op a b c m w
  lst : Lst w sa (shp op.toNat)
  lne : ∀ b, sa = some ⟨b, 0, none⟩ → bx < b
  glt : gl < w.heap.size
  strs : ∀ (j : Nat) x, L[j]? = some x → w.cell? ⟨gl, j, none⟩ = some (.string x)
  bxw : w0.heap.size < bx
  bxg : bx < gl
theorem PS.next {w0 w w1 : World} {bx gl : Nat} {sa : Option Addr} {L : List ByteArray} {op a b c m : Int} (h : PS w0 bx gl sa L op a b c m w) (hb : Below w.heap.size w w1) : PS w0 bx gl sa L op a b c m w1 :=
  ⟨bt h.below hb, h.res.next hb, h.box.next hb, h.lst.next hb, h.lne, Nat.lt_of_lt_of_le h.glt hb.size, fun j x hj => ((bcell hb).1 gl j h.glt).trans (h.strs j x hj), h.bxw, h.bxg⟩
theorem PS.put {w0 w : World} {bx gl : Nat} {sa : Option Addr} {L : List ByteArray} {op a b c m o : Int} (h : PS w0 bx gl sa L op a b c m w) (n : Int) (ho : o = 0 ∨ o = 1 ∨ o = 2 ∨ o = 3) : PS w0 bx gl sa L op (if o = 0 then n else a) (if o = 1 then n else b) (if o = 2 then n else c) (if o = 3 then IntKind.i16.wrap n else m) (setW bx o n w) := by
  have h1 := h.bxw
  have h2 := h.bxg
  refine ⟨setW_below h.below (by omega), h.res.offW _ _ (by omega), h.box.written n ho, ⟨fun j x hj => ?_⟩, h.lne, by rw [setW_size]; exact h.glt, fun j x hj => (setW_cell (by omega)).trans (h.strs j x hj), h.bxw, h.bxg⟩
  obtain ⟨b, e, hlt, hc⟩ := h.lst.at_ j x hj
  exact ⟨b, e, by rw [setW_size]; exact hlt, (setW_cell (by have := h.lne b e; omega)).trans hc⟩
/-- the ghost: what has been read of the instruction -/
def Got (s : ByteArray) (op : Int) (l : List Int) (a' b' c' m' : Int) : Prop := ∀ a b c m : Int, -32768 ≤ m → m ≤ 32767 → Txt s op a b c m → a' = kept l 0 a ∧ b' = kept l 1 b ∧ c' = kept l 2 c ∧ m' = kept l 3 m
theorem cut_le2 (s t : List UInt8) : (Lib.cut s t).2.1.length ≤ s.length := by
  unfold Lib.cut; split <;> simp
theorem split_c (s : ByteArray) (hs : s.size < 4294967281) (w : World) (hr : Ready w) : Calls Tryd.prog 58 #[.string s, .string ⟨#[44, 32]⟩] w fun e w' => e = .returned (.slice (some ⟨w.heap.size, 0, none⟩) (pieces s ⟨#[44, 32]⟩).length (pieces s ⟨#[44, 32]⟩).length) ∧ w' = w.alloc (.cells ((pieces s ⟨#[44, 32]⟩).map Value.string).toArray 9) := by
  obtain ⟨m, hm⟩ := hr.mx
  rw [pieces_len s ⟨#[44, 32]⟩ (by simp)]
  exact Tryd.strings_Split s ⟨#[44, 32]⟩ m w hs hm (by decide)
theorem got_end {s : ByteArray} {op a' b' c' m' a b c m : Int} (hg : Got s op (shp op.toNat) a' b' c' m') (h0 : -32768 ≤ m) (h1 : m ≤ 32767) (h : Txt s op a b c m) : Txt s op a' b' c' m' := by
  have hv := h.1
  unfold vld at hv
  simp only [Bool.and_eq_true, beq_iff_eq] at hv
  obtain ⟨e1, e2, e3, e4⟩ := hg a b c m h0 h1 h
  rw [hv.2.2.1] at e1
  rw [hv.2.2.2.1] at e2
  rw [hv.2.2.2.2.1] at e3
  rw [hv.2.2.2.2.2] at e4
  subst e1 e2 e3 e4
  exact h
theorem got_step {s : ByteArray} {op a' b' c' m' n : Int} {k : Nat} (hk : k < (shp op.toNat).length) (hg : Got s op ((shp op.toNat).take k) a' b' c' m') (hn : ∀ a b c m : Int, -32768 ≤ m → m ≤ 32767 → Txt s op a b c m → n = fieldOf a b c m (shp op.toNat)[k]) (h0 : -32768 ≤ n) (h1 : n ≤ 32767) : Got s op ((shp op.toNat).take (k + 1)) (if (shp op.toNat)[k] = 0 then n else a') (if (shp op.toNat)[k] = 1 then n else b') (if (shp op.toNat)[k] = 2 then n else c') (if (shp op.toNat)[k] = 3 then IntKind.i16.wrap n else m') := by
  intro a b c m m0 m1 h
  obtain ⟨e1, e2, e3, e4⟩ := hg a b c m m0 m1 h
  have en := hn a b c m m0 m1 h
  have hw : IntKind.i16.wrap n = n := by rw [wrap_i16]; omega
  rw [hw, kept_take hk, kept_take hk, kept_take hk, kept_take hk]
  have hin := shp_in op.toNat _ (List.getElem_mem hk)
  generalize (shp op.toNat)[k] = x at *
  subst e1 e2 e3 e4 en
  rcases hin with rfl | rfl | rfl | rfl <;> simp [fieldOf]
set_option maxRecDepth 100000 in
set_option maxHeartbeats 4000000 in
theorem parse_c (s : ByteArray) (hs : s.size ≤ 1000) (w : World) (hr : Ready w) : Calls Tryd.prog 33 #[.string s] w (Parsed s w) := by
  rcases hcut : Lib.cut s.data.toList [32] with ⟨nl, rl, bb⟩
  have CT := cut_is s ⟨#[32]⟩ (by omega) hcut _ (hr.below (ba w (.cells #[.int .i64 0, .int .i64 0, .int .i64 0, .int .i64 0, .int .i16 0] 24)))
  have G1 : ∀ op a b c m : Int, Txt s op a b c m → (⟨nl.toArray⟩ : ByteArray) = nam op.toNat := fun op a b c m h => bytes_ext (by have := (txt_cut h).1; rw [hcut] at this; exact this)
  have G2 : ∀ op a b c m : Int, Txt s op a b c m → shp op.toNat ≠ [] → pieces ⟨rl.toArray⟩ ⟨#[44, 32]⟩ = opTs op a b c m := fun op a b c m h hne => by have := txt_pieces h hne; rw [hcut] at this; exact this
  have G3 : s = ⟨#[]⟩ → (⟨nl.toArray⟩ : ByteArray) = ⟨#[]⟩ := fun e => by subst e; have : Lib.cut ([] : List UInt8) [32] = (nl, rl, bb) := hcut; have h2 : Lib.cut ([] : List UInt8) [32] = ([], [], false) := rfl; rw [h2] at this; injection this with h3; rw [← h3]
  have hrl : rl.length ≤ 1000 := by
    have : (Lib.cut s.data.toList [32]).2.1.length ≤ s.data.toList.length := cut_le2 _ _
    have e : s.data.toList.length = s.size := by simp
    rw [hcut, e] at this
    exact Nat.le_trans this hs
  have hrs : (⟨rl.toArray⟩ : ByteArray).size ≤ 1000 := by simpa [ByteArray.size] using hrl
  generalize hnm : (⟨nl.toArray⟩ : ByteArray) = nm at *
  generalize hre : (⟨rl.toArray⟩ : ByteArray) = rest at *
  have HCT := Lib.hid CT
  have HG1 := Lib.hid G1
  have HG2 := Lib.hid G2
  have HG3 := Lib.hid G3
  have HR := Lib.hid hr
  clear CT G1 G2 G3 hrl hnm hre hcut hr
  go_enter Tryd.func33, Tryd.ntmps33
  go_wp2_with fail
  have R0 := Cod.new (w := w) 0 0 0 0 0 24
  refine HCT.out.mono ?_
  rintro e w1 ⟨rfl, hb1⟩
  replace R0 := R0.next hb1
  have k1 : Below w.heap.size w w1 := bt (ba w _) hb1
  clear hb1
  go_wp2_with fail
  replace R0 := R0.next (ba w1 (.cells #[.string nm] 9))
  have N0 : (w1.alloc (.cells #[.string nm] 9)).cell? ⟨w1.heap.size, 0, none⟩ = some (.string nm) := (World.cell?_alloc_at _ _ _ _ rfl).trans rfl
  have k2 := bt k1 (ba w1 (.cells #[.string nm] 9))
  have hlt1 : w1.heap.size < (w1.alloc (.cells #[.string nm] 9)).heap.size := by simp
  refine (ops_c _).mono ?_
  rintro e w2 ⟨rfl, T, hb2⟩
  replace R0 := R0.next hb2
  replace k2 := bt k2 hb2
  replace N0 := ((bcell hb2).1 w1.heap.size 0 hlt1).trans N0
  replace hlt1 := Nat.lt_of_lt_of_le hlt1 hb2.size
  clear hb2
  rw [World.size_alloc] at T
  have HT := Lib.hid T
  have HN0 := Lib.hid N0
  clear T N0
  go_wp2_with fail
  (with_reducible refine (find_c (w1.heap.size + 1) w1.heap.size nm _ HT.out hlt1 HN0.out).mono ?_)
  rintro e w3 ⟨r, rfl, hfnd, hb3⟩
  replace R0 := R0.next hb3
  replace k2 := bt k2 hb3
  clear hb3 HT HN0 hlt1
  have HF := Lib.hid hfnd
  clear hfnd
  obtain ⟨lt, c0, c1, c2, c3, c4, f0, f1, f2, f3, f4⟩ := id R0
  by_cases hr1 : r < 1
  · go_wp2_with fail
    refine bodyPost_ret (v := .tuple #[code 0 0 0 0 0, .int .i64 2]) (by simp [results, Tryd.results33, go_sem, *]) rfl ⟨.inr ⟨?_, rfl⟩, ?_⟩
    · intro op a b c m m0 m1 h
      obtain ⟨ho, -⟩ := vld_bounds h.1
      have hn := HG1.out op a b c m h
      rcases HF.out with ⟨r0, r2, hnam⟩ | ⟨hr', hno⟩
      · have hz : r = 0 := by omega
        subst hz
        exact nam_in op.toNat (by omega) (by omega) (by rw [← hn, ← hnam]; rfl)
      · exact hno op.toNat (by omega) hn.symm
    · repeat' first | exact k2 | refine Below.setCell ?_ ?_ _ | (simp; done)
  · have hrb : 1 ≤ r ∧ r ≤ 30 := by rcases HF.out with ⟨r0, r2, hnam⟩ | ⟨hr', hno⟩ <;> omega
    obtain ⟨r1, r30⟩ := hrb
    have hnam : nam r.toNat = nm := by
      rcases HF.out with ⟨r0, r2, hnam⟩ | ⟨hr', hno⟩
      · exact hnam
      · omega
    have HNM := Lib.hid hnam
    have HOP := Lib.hid (show ∀ op a b c m : Int, Txt s op a b c m → op = r from fun op a b c m h => by
      obtain ⟨ho, -⟩ := vld_bounds h.1
      exact nam_inj ho ⟨by omega, r30⟩ (by rw [hnam, HG1.out op a b c m h]))
    clear hnam HF hr1
    go_wp2_with fail
    have B0 := Cod.new (w := w3) r 0 0 0 0 24
    replace R0 := R0.next (ba w3 (.cells #[.int .i64 r, .int .i64 0, .int .i64 0, .int .i64 0, .int .i16 0] 24))
    have k3 := bt k2 (ba w3 (.cells #[.int .i64 r, .int .i64 0, .int .i64 0, .int .i64 0, .int .i16 0] 24))
    have hbx : w.heap.size < w3.heap.size := lt
    refine (describe_new r r1 r30 _).mono ?_
    rintro e w4 ⟨sa, rfl, L, hnew, hb4⟩
    replace R0 := R0.next hb4
    replace B0 := B0.next hb4
    replace k3 := bt k3 hb4
    have hs4 : w3.heap.size + 1 ≤ w4.heap.size := by have := hb4.size; simpa using this
    clear hb4 lt c0 c1 c2 c3 c4 f0 f1 f2 f3 f4
    go_wp2_with fail
    replace R0 := R0.next (ba w4 (.cells #[.string (nam r.toNat), .slice sa (shp r.toNat).length (shp r.toNat).length] 46))
    replace B0 := B0.next (ba w4 (.cells #[.string (nam r.toNat), .slice sa (shp r.toNat).length (shp r.toNat).length] 46))
    replace k3 := bt k3 (ba w4 (.cells #[.string (nam r.toNat), .slice sa (shp r.toNat).length (shp r.toNat).length] 46))
    have L1 := L.next (ba w4 (.cells #[.string (nam r.toNat), .slice sa (shp r.toNat).length (shp r.toNat).length] 46))
    refine (split_c rest (by omega) _ (HR.out.below k3)).mono ?_
    rintro e w5 ⟨rfl, rfl⟩
    have HPL := Lib.hid (show ∀ a b c m : Int, Txt s r a b c m → shp r.toNat ≠ [] → pieces rest ⟨#[44, 32]⟩ = opTs r a b c m from fun a b c m h => HG2.out r a b c m h)
    clear HG2
    have hple : (pieces rest ⟨#[44, 32]⟩).length ≤ 10000 := by
      rw [pieces_len _ _ (by simp)]
      have := Lib.count_le rest.data.toList [44, 32]
      have e : rest.data.toList.length = rest.size := by simp
      unfold Lib.countB
      simp only at this ⊢
      omega
    have HPS := Lib.hid (show ∀ x ∈ pieces rest ⟨#[44, 32]⟩, x.size ≤ 1000 from fun x hx => Nat.le_trans (pieces_size hx) hrs)
    generalize hPL : pieces rest ⟨#[44, 32]⟩ = PL at *
    clear hPL
    have P0 : PS w w3.heap.size (w4.heap.size + 1) sa PL r 0 0 0 0 ((w4.alloc (.cells #[.string (nam r.toNat), .slice sa (shp r.toNat).length (shp r.toNat).length] 46)).alloc (.cells (PL.map Value.string).toArray 9)) := by
      refine ⟨bt k3 (ba _ _), R0.next (ba _ _), B0.next (ba _ _), L1.next (ba _ _), fun b hb => by have := hnew b hb; simp at this; omega, by simp, fun j x hx => ?_, hbx, by omega⟩
      rw [World.cell?_alloc_at _ _ _ _ (by simp)]
      simp [hx]
    have D1 : ((w4.alloc (.cells #[.string (nam r.toNat), .slice sa (shp r.toNat).length (shp r.toNat).length] 46)).alloc (.cells (PL.map Value.string).toArray 9)).cell? ⟨w4.heap.size, 1, none⟩ = some (.slice sa (shp r.toNat).length (shp r.toNat).length) := by
      rw [(bcell (ba (w4.alloc (.cells #[.string (nam r.toNat), .slice sa (shp r.toNat).length (shp r.toNat).length] 46)) (.cells (PL.map Value.string).toArray 9))).1 w4.heap.size 1 (by simp)]
      exact (World.cell?_alloc_at _ _ _ _ rfl).trans rfl
    have S1 : ((w4.alloc (.cells #[.string (nam r.toNat), .slice sa (shp r.toNat).length (shp r.toNat).length] 46)).heap.size) = w4.heap.size + 1 := by simp
    generalize ((w4.alloc (.cells #[.string (nam r.toNat), .slice sa (shp r.toNat).length (shp r.toNat).length] 46)).alloc (.cells (PL.map Value.string).toArray 9)) = w6 at *
    clear R0 B0 k3 L1 L hnew k2
    have hl3 := shp_len r.toNat
    have hl3' : ((shp r.toNat).length : Int) ≤ 3 := by omega
    have hplc : (PL.length : Int) ≤ 10000 := by omega
    go_wp2_with fail
    go_loopw [40] (fun i wr => ∃ (k : Nat) (a b c m : Int), k ≤ (shp r.toNat).length ∧ i = .int .i64 k ∧ (-32768 ≤ a ∧ a ≤ 32767) ∧ (-32768 ≤ b ∧ b ≤ 32767) ∧ (-32768 ≤ c ∧ c ≤ 32767) ∧ (-32768 ≤ m ∧ m ≤ 32767) ∧ PS w w3.heap.size (w4.heap.size + 1) sa PL r a b c m wr ∧ Got s r ((shp r.toNat).take k) a b c m) (fun i _ => (shp r.toNat).length - (intOf i).toNat)
    case atStart => exact ⟨0, 0, 0, 0, 0, by omega, rfl, by decide, by decide, by decide, by decide, P0, fun a b c m _ _ _ => by simp [kept]⟩
    case round =>
      obtain ⟨k, a, b, c, m, hk, rfl, ha, hb, hc, hm, Pk, G⟩ := hrel
      have HGT := Lib.hid G
      have HP := Lib.hid Pk
      obtain ⟨a0, a1⟩ := ha
      obtain ⟨b0, b1⟩ := hb
      obtain ⟨cc0, cc1⟩ := hc
      obtain ⟨m0, m1⟩ := hm
      clear G P0
      obtain ⟨lt, c0, c1, c2, c3, c4, f0, f1, f2, f3, f4⟩ := Pk.res
      by_cases hkl : k < (shp r.toNat).length
      · obtain ⟨b9, rfl, hlt9, hcell⟩ := Pk.lst.at_ k _ (List.getElem?_eq_getElem hkl)
        have hin := shp_in r.toNat _ (List.getElem_mem hkl)
        have HGS := Lib.hid (fun (n : Int) hn h0 h1 => got_step (n := n) hkl HGT.out hn h0 h1)
        have hgt : ∀ a b c m : Int, (opTs r a b c m)[k]? = some (opT a b c m (shp r.toNat)[k]) := fun a b c m => by unfold opTs; rw [List.getElem?_map, List.getElem?_eq_getElem hkl]; rfl
        have hne : shp r.toNat ≠ [] := fun e => by rw [e] at hkl; simp at hkl
        have HQ := Lib.hid (show ∀ a b c m : Int, Txt s r a b c m → PL[k]? = some (opT a b c m (shp r.toNat)[k]) from fun a b c m h => by rw [HPL.out a b c m h hne]; exact hgt a b c m)
        have hk3 : (k : Int) < 3 := by omega
        generalize hx : (shp r.toNat)[k] = x at *
        clear hgt hne hx Pk
        by_cases hkp : k < PL.length
        · have hy := List.getElem?_eq_getElem hkp
          have hys := HPS.out _ (List.getElem_mem hkp)
          generalize PL[k] = y at *
          have hyc := HP.out.strs k y hy
          have HY := Lib.hid (show ∀ a b c m : Int, Txt s r a b c m → y = opT a b c m x from fun a b c m h => by have := HQ.out a b c m h; rw [hy] at this; exact Option.some.inj this)
          clear hy HQ
          go_wp2_with fail
          obtain ⟨u, hu⟩ : ∃ u : ByteArray, (⟨(Lib.trimPrefix y.data.toList [114]).toArray⟩ : ByteArray) = u := ⟨_, rfl⟩
          have tp := Tryd.strings_TrimPrefix y ⟨#[114]⟩ wr
          rw [show (⟨(Lib.trimPrefix y.data.toList (⟨#[114]⟩ : ByteArray).data.toList).toArray⟩ : ByteArray) = u from hu] at tp
          have hul : u.data.toList = Lib.trimPrefix y.data.toList [114] := by rw [← hu]
          have hus : u.size ≤ 1000 := by
            have e1 : u.size = u.data.toList.length := by simp
            have e2 : y.size = y.data.toList.length := by simp
            rw [e1, hul]
            unfold Lib.trimPrefix
            split
            · rw [List.length_drop]; omega
            · omega
          have HU := Lib.hid hul
          clear hu hul
          refine tp.mono ?_
          rintro e w7 ⟨rfl, hw7⟩
          obtain rfl := hw7.symm
          clear hw7 tp
          by_cases hp : ∃ n, Lib.parseIntB 16 u.data.toList = .ok n
          · obtain ⟨n, hp⟩ := hp
            have hnb := Lib.parseIntB_bounds hp
            have hn0 : -32768 ≤ n := by simpa using hnb.1
            have hn1 : n ≤ 32767 := by have := hnb.2; simp at this; omega
            have HN := Lib.hid (show ∀ a b c m : Int, -32768 ≤ m → m ≤ 32767 → Txt s r a b c m → n = fieldOf a b c m x from fun a b c m m0 m1 h => by
              obtain ⟨-, ha, hb, hc⟩ := vld_bounds h.1
              have h2 := opT_parse (o := x) hin ⟨m0, m1⟩ ha hb hc
              rw [← HY.out a b c m h, ← HU.out, hp] at h2
              injection h2)
            have pk := parse16_ok u (by omega) n hp wr
            clear hp hnb
            go_wp2_with fail
            refine pk.mono ?_
            rintro e w8 ⟨rfl, hb8⟩
            have P8 := HP.out.next hb8
            clear pk lt c0 c1 c2 c3 c4 f0 f1 f2 f3 f4 hcell hyc
            go_wp2_with fail
            refine (set_c w3.heap.size r a b c m x n hin _ P8.box).mono ?_
            rintro e w9 ⟨rfl, rfl⟩
            go_wp2_with fail
            go_roundw
            case rel =>
              refine ⟨k + 1, _, _, _, _, by omega, by go_num, ?_, ?_, ?_, ?_, P8.put n hin, HGS.out n HN.out hn0 hn1⟩
              · split <;> omega
              · split <;> omega
              · split <;> omega
              · rw [wrap_i16]; split <;> omega
            case measure => simp [intOf]; omega
          · have hp' : ∀ v, Lib.parseIntB 16 u.data.toList ≠ .ok v := fun v hv => hp ⟨v, hv⟩
            have pk := parse16_bad u (by omega) hp' wr (HR.out.below HP.out.below)
            have HE := Lib.hid (show ∀ a b c m : Int, -32768 ≤ m → m ≤ 32767 → ¬ Txt s r a b c m from fun a b c m m0 m1 h => by
              obtain ⟨-, ha, hb, hc⟩ := vld_bounds h.1
              have h2 := opT_parse (o := x) hin ⟨m0, m1⟩ ha hb hc
              rw [← HY.out a b c m h, ← HU.out] at h2
              exact hp' _ h2)
            clear hp hp'
            go_wp2_with fail
            refine pk.mono ?_
            rintro e w8 ⟨n, N, hn0, hn1, rfl, hb8⟩
            have P8 := HP.out.next hb8
            clear pk lt c0 c1 c2 c3 c4 f0 f1 f2 f3 f4 hcell hyc
            have kz := P8.below
            obtain ⟨lt, c0, c1, c2, c3, c4, f0, f1, f2, f3, f4⟩ := P8.res
            go_wp2_with fail
            refine bodyPost_ret (v := .tuple #[code 0 0 0 0 0, .int .i64 2]) (by simp [results, Tryd.results33, go_sem, *]) rfl ⟨.inr ⟨?_, rfl⟩, ?_⟩
            · intro op' a b c m m0 m1 h
              obtain rfl := HOP.out op' a b c m h
              exact HE.out a b c m m0 m1 h
            · repeat' first | exact kz | refine Below.setCell ?_ ?_ _ | (simp; done)
        · have HE := Lib.hid (show ∀ a b c m : Int, ¬ Txt s r a b c m from fun a b c m h => by
            have := HQ.out a b c m h
            rw [List.getElem?_eq_none (by omega)] at this
            simp at this)
          have kz := HP.out.below
          clear HQ
          go_wp2_with fail
          refine bodyPost_ret (v := .tuple #[code 0 0 0 0 0, .int .i64 2]) (by simp [results, Tryd.results33, go_sem, *]) rfl ⟨.inr ⟨?_, rfl⟩, ?_⟩
          · intro op' a b c m m0 m1 h
            obtain rfl := HOP.out op' a b c m h
            exact HE.out a b c m h
          · repeat' first | exact kz | refine Below.setCell ?_ ?_ _ | (simp; done)
      · obtain rfl : k = (shp r.toNat).length := by omega
        have hge := HGT.out
        rw [List.take_length] at hge
        have HGE := Lib.hid hge
        obtain ⟨lt', d0, d1, d2, d3, d4, g0, g1, g2, g3, g4⟩ := Pk.box
        clear hge Pk
        go_wp2_with fail
        refine (fmt_any r a b c m ⟨m0, m1⟩ _ (HR.out.below HP.out.below).t).mono ?_
        rintro e w7 ⟨rfl, hb7⟩
        have P7 := HP.out.next hb7
        clear lt c0 c1 c2 c3 c4 f0 f1 f2 f3 f4 lt' d0 d1 d2 d3 d4 g0 g1 g2 g3 g4
        have kz := P7.below
        obtain ⟨lt, c0, c1, c2, c3, c4, f0, f1, f2, f3, f4⟩ := P7.res
        obtain ⟨lt', d0, d1, d2, d3, d4, g0, g1, g2, g3, g4⟩ := P7.box
        obtain ⟨ft, hft⟩ : ∃ ft : ByteArray, (if vld r a b c m = true then fmtS r a b c m else ⟨#[]⟩) = ft := ⟨_, rfl⟩
        have HFT := Lib.hid hft
        rw [hft]
        clear hft
        by_cases heq : ft = s
        · have hv : vld r a b c m = true := by
            cases hv : vld r a b c m
            · have e1 := HFT.out
              rw [hv] at e1
              have e2 : s = ⟨#[]⟩ := by rw [← heq, ← e1]; rfl
              have e3 := HG3.out e2
              rw [← HNM.out] at e3
              exact absurd e3 (nam_in r.toNat (by omega) (by omega))
            · rfl
          have HT := Lib.hid (show Txt s r a b c m from ⟨hv, by have e1 := HFT.out; rw [if_pos hv] at e1; rw [e1, heq]⟩)
          have hq : (ft.toList == s.toList) = true := by rw [heq]; simp
          have hq2 : (!(ft.toList == s.toList)) = false := by rw [hq]; rfl
          clear heq hv
          go_wp2_with fail
          refine bodyPost_ret (v := .tuple #[code r a b c m, .int .i64 0]) (by simp [results, Tryd.results33, go_sem, *]) rfl ⟨.inl ⟨r, a, b, c, m, m0, m1, HT.out, rfl⟩, ?_⟩
          repeat' first | exact kz | refine Below.setCell ?_ ?_ _ | (simp; done)
        · have hq : (ft.toList == s.toList) = false := by
            rw [beq_eq_false_iff_ne]; exact fun e => heq (toList_eq e)
          have HE := Lib.hid (show ∀ a b c m : Int, -32768 ≤ m → m ≤ 32767 → ¬ Txt s r a b c m from fun a' b' c' m' m0 m1 h => by
            have h2 := got_end HGE.out m0 m1 h
            have e1 := HFT.out
            rw [if_pos h2.1, h2.2] at e1
            exact heq e1.symm)
          clear heq
          go_wp2_with fail
          refine bodyPost_ret (v := .tuple #[code 0 0 0 0 0, .int .i64 2]) (by simp [results, Tryd.results33, go_sem, *]) rfl ⟨.inr ⟨?_, rfl⟩, ?_⟩
          · intro op' a b c m m0 m1 h
            obtain rfl := HOP.out op' a b c m h
            exact HE.out a b c m m0 m1 h
          · repeat' first | exact kz | refine Below.setCell ?_ ?_ _ | (simp; done)
end Go.Proofs.YtpgjmegecfaijaaDoor
