/-
  Slices of events; Format, by trace and by the reference.
-/
import Derived.Test.YtdfconiahfdhbaaDoorRln
import Derived.Test.YtdfconiahfdhbaaDoorBld
namespace Go.Proofs.YtdfconiahfdhbaaDoor
open Go.RowKit
attribute [local go_sem ↓] Go.wp_at_zero Go.wp_at_succ

/-- an event's cells from an address on -/
structure EvA (w : World) (a : Addr) (e : Ev) : Prop where
  lt : a.block < w.heap.size
  c0 : w.cell? a = some (.int .i64 e.kind)
  c1 : w.cell? ⟨a.block, a.off + 1, none⟩ = some (.int .i64 e.time)
  c2 : w.cell? ⟨a.block, a.off + 2, none⟩ = some (.int .i64 e.task)
  c3 : w.cell? ⟨a.block, a.off + 3, none⟩ = some (.int .i64 e.n)
  c4 : w.cell? ⟨a.block, a.off + 4, none⟩ = some (.int .i16 e.value)
  c5 : w.cell? ⟨a.block, a.off + 5, none⟩ = some (.int .i64 e.port)
theorem EvA.next {w w' : World} {a : Addr} {e : Ev} (h : EvA w a e) (hb : Below w.heap.size w w') : EvA w' a e := by
  obtain ⟨hc, -⟩ := bcell hb
  exact ⟨Nat.lt_of_lt_of_le h.lt hb.size, (hb.cell h.lt).trans h.c0, (hc _ _ h.lt).trans h.c1, (hc _ _ h.lt).trans h.c2, (hc _ _ h.lt).trans h.c3, (hc _ _ h.lt).trans h.c4, (hc _ _ h.lt).trans h.c5⟩
/-- a slice that reads as a list of events -/
structure Evs (w : World) (A : Option Addr) (l : List Ev) : Prop where
  at_ : ∀ j e, l[j]? = some e → ∃ ad, A = some ad ∧ EvA w (ad.add (j * 6)) e
theorem Evs.next {w w' : World} {A : Option Addr} {l : List Ev} (h : Evs w A l) (hb : Below w.heap.size w w') : Evs w' A l :=
  ⟨fun j e hj => by
    obtain ⟨ad, ea, H⟩ := h.at_ j e hj
    exact ⟨ad, ea, H.next hb⟩⟩
theorem Evs.nil {w : World} (A : Option Addr) : Evs w A [] := ⟨fun j e hj => by simp at hj⟩
def InL (l : List Ev) : Prop := ∀ e ∈ l, InE e
/-- the text of events, if they are valid -/
def txt (l : List Ev) : List UInt8 := l.flatMap lineE
def fmtL (l : List Ev) : List UInt8 := if l.all validE = true then txt l else []
theorem lineE_len {e : Ev} (h : InE e) : (lineE e).length ≤ 118 := by
  have h1 := headE_len h
  have h2 := bodyE_len h (flds e)
  have h3 := flds_len e
  unfold lineE lineN
  rw [List.length_append, List.length_append, List.length_singleton]
  omega
theorem txt_snoc (l : List Ev) (e : Ev) : txt (l ++ [e]) = txt l ++ lineE e := by unfold txt; simp
theorem txt_cons (e : Ev) (l : List Ev) : txt (e :: l) = lineE e ++ txt l := rfl
theorem txt_le (l : List Ev) (h : InL l) : (txt l).length ≤ l.length * 118 := by
  induction l with
  | nil => simp [txt]
  | cons e l ih =>
    have h1 := lineE_len (h e (by simp))
    have h2 := ih (fun x hx => h x (by simp [hx]))
    rw [txt_cons, List.length_append, List.length_cons]
    omega
theorem txt_take {l : List Ev} {k : Nat} (hk : k < l.length) : txt (l.take (k + 1)) = txt (l.take k) ++ lineE l[k] := by rw [List.take_succ_eq_append_getElem hk, txt_snoc]
theorem InL.take {l : List Ev} (h : InL l) (k : Nat) : InL (l.take k) := fun e he => h e (List.mem_of_mem_take he)
theorem fmt_bad {l : List Ev} {k : Nat} (hk : k < l.length) (hv : validE l[k] = false) : fmtL l = [] := by
  unfold fmtL
  rw [if_neg]
  intro h
  rw [List.all_eq_true] at h
  have := h l[k] (List.getElem_mem hk)
  rw [hv] at this
  cases this
theorem all_snoc' {l : List Ev} {k : Nat} (hk : k < l.length) (hv : validE l[k] = true) (h : (l.take k).all validE = true) : (l.take (k + 1)).all validE = true := by
  rw [List.take_succ_eq_append_getElem hk, List.all_append, h]
  simp [hv]
set_option maxRecDepth 100000 in
set_option maxHeartbeats 2000000 in
theorem format_c (l : List Ev) (hl : l.length ≤ 10000) (hin : InL l) (A : Option Addr) (cap : Nat) (w : World) (hr : Rdy w) (C : Evs w A l) : Calls Tryd.prog 13 #[.slice A l.length cap] w fun e w' => e = .returned (.string ⟨(fmtL l).toArray⟩) ∧ Below w.heap.size w w' := by
  have HC := Lib.hid C
  have hl3 : (l.length : Int) ≤ 10000 := by omega
  have HI := Lib.hid hin
  have hB := Bld.fresh w
  clear C hin
  go_enter Tryd.func13, Tryd.ntmps13
  go_wp2_with fail
  go_loopw [8] (fun i wr => ∃ k : Nat, k ≤ l.length ∧ i = .int .i64 k ∧ (l.take k).all validE = true ∧ Bld w.heap.size w.heap.size (txt (l.take k)) wr ∧ Below w.heap.size w wr ∧ w.heap.size < wr.heap.size) (fun i _ => l.length - (intOf i).toNat)
  case atStart => exact ⟨0, by omega, rfl, rfl, hB, ba w _, by simp⟩
  case round =>
    obtain ⟨k, hk, rfl, hall, B, hbr, hsz⟩ := hrel
    have HB := Lib.hid B
    have HK := Lib.hid hbr
    have HA := Lib.hid hall
    clear B hB hall
    by_cases hlt : k < l.length
    · obtain ⟨ad, rfl, EA⟩ := (HC.out.next hbr).at_ k _ (List.getElem?_eq_getElem hlt)
      have HT := Lib.hid (txt_take hlt)
      have HX := Lib.hid (HI.out l[k] (List.getElem_mem hlt))
      have HLE := Lib.hid (txt_le (l.take k) (HI.out.take k))
      have HLK := Lib.hid (show (l.take k).length ≤ 10000 from by rw [List.length_take]; omega)
      have HBD := Lib.hid (fmt_bad (l := l) hlt)
      have HAS := Lib.hid (fun a => all_snoc' (l := l) hlt a HA.out)
      generalize l[k] = e at *
      obtain ⟨_, c0, c1, c2, c3, c4, c5⟩ := EA
      clear hbr
      go_wp2_with fail
      have hb1 := ba wr (.cells #[.int .i64 e.kind, .int .i64 e.time, .int .i64 e.task, .int .i64 e.n, .int .i16 e.value, .int .i64 e.port] 26)
      have K1 := Lib.hid (HK.out.trans (hb1.mono HK.out.size))
      have B1 := Lib.hid (HB.out.next hb1)
      have X1 := Lib.hid (EX.start wr e 26)
      have hs1 := Nat.lt_of_lt_of_le hsz hb1.size
      clear hb1 c0 c1 c2 c3 c4 c5
      refine (valid_c e HX.out _ (hr.next K1.out).k).mono ?_
      rintro r w2 ⟨rfl, hb2⟩
      have K2 := Lib.hid (K1.out.trans (hb2.mono K1.out.size))
      have B2 := Lib.hid (B1.out.next hb2)
      have X2 := X1.out.next hb2
      have hs2 := Nat.lt_of_lt_of_le hs1 hb2.size
      clear hb2 K1 B1 X1 hs1
      cases hv : validE e
      · have HF := Lib.hid (HBD.out hv)
        clear hv
        go_wp2_with fail
        go_ret
        exact ⟨ret_str (by rw [HF.out]), K2.out⟩
      · have HV := Lib.hid (valid_ve hv)
        have HA2 := Lib.hid (HAS.out hv)
        obtain ⟨_, c0, c1, c2, c3, c4, c5, _⟩ := X2
        clear hv
        go_wp2_with fail
        refine (line_c e HX.out HV.out.k _ (hr.next K2.out)).mono ?_
        rintro r w3 ⟨rfl, hb3⟩
        have K3 := Lib.hid (K2.out.trans (hb3.mono K2.out.size))
        have B3 := Lib.hid (B2.out.next hb3)
        have hs3 := Nat.lt_of_lt_of_le hs2 hb3.size
        clear hb3 K2 B2 hs2 c0 c1 c2 c3 c4 c5
        have hln := lineE_len HX.out
        have hsl : (⟨(lineE e).toArray⟩ : ByteArray).size ≤ 118 := by simpa [ByteArray.size] using hln
        clear hln
        go_wp2_with fail
        refine (write_c w.heap.size w.heap.size (txt (l.take k)) _ _ B3.out (by have := HLE.out; have := HLK.out; omega) (by omega)).mono ?_
        rintro r w4 ⟨rfl, B4, hb4⟩
        have K4 := Lib.hid (K3.out.trans hb4)
        have HB4 := Lib.hid B4
        have hs4 := Nat.lt_of_lt_of_le hs3 hb4.size
        clear B4 hb4
        go_wp2_with fail
        go_roundw
        case rel => exact ⟨k + 1, by omega, by go_num, HA2.out, by rw [HT.out]; exact HB4.out, K4.out, hs4⟩
        case measure => simp [intOf]; omega
    · obtain rfl : k = l.length := by omega
      rw [List.take_length] at HB HA
      have HF := Lib.hid (show fmtL l = txt l from by unfold fmtL; rw [if_pos HA.out])
      go_wp2_with fail
      refine (string_c w.heap.size w.heap.size (txt l) _ HB.out (by omega)).mono ?_
      rintro e w2 ⟨rfl, hb2⟩
      go_wp2_with fail
      go_ret
      exact ⟨ret_str (by rw [HF.out]), HK.out.trans hb2⟩
set_option maxRecDepth 100000 in
set_option maxHeartbeats 2000000 in
theorem rformat_c (l : List Ev) (hl : l.length ≤ 10000) (hin : InL l) (A : Option Addr) (cap : Nat) (w : World) (hr : Rdy w) (C : Evs w A l) : Calls Tryd.prog 14 #[.slice A l.length cap] w fun e w' => e = .returned (.string ⟨(fmtL l).toArray⟩) ∧ Below w.heap.size w w' := by
  have HC := Lib.hid C
  have hl3 : (l.length : Int) ≤ 10000 := by omega
  have HI := Lib.hid hin
  clear C hin
  go_enter Tryd.func14, Tryd.ntmps14
  go_wp2_with fail
  go_loopw [3, 8] (fun s i wr => ∃ k : Nat, k ≤ l.length ∧ i = .int .i64 k ∧ s = .string ⟨(txt (l.take k)).toArray⟩ ∧ (l.take k).all validE = true ∧ Below w.heap.size w wr) (fun _ i _ => l.length - (intOf i).toNat)
  case atStart => exact ⟨0, by omega, rfl, rfl, rfl, Below.refl _ _⟩
  case round =>
    obtain ⟨k, hk, rfl, rfl, hall, hbr⟩ := hrel
    have HK := Lib.hid hbr
    have HA := Lib.hid hall
    clear hall
    by_cases hlt : k < l.length
    · obtain ⟨ad, rfl, EA⟩ := (HC.out.next hbr).at_ k _ (List.getElem?_eq_getElem hlt)
      have HT := Lib.hid (txt_take hlt)
      have HX := Lib.hid (HI.out l[k] (List.getElem_mem hlt))
      have hle := txt_le (l.take k) (HI.out.take k)
      rw [List.length_take] at hle
      have HLE : (txt (l.take k)).length ≤ 1180000 := by omega
      have HBD := Lib.hid (fmt_bad (l := l) hlt)
      have HAS := Lib.hid (fun a => all_snoc' (l := l) hlt a HA.out)
      clear hle
      generalize l[k] = e at *
      obtain ⟨_, c0, c1, c2, c3, c4, c5⟩ := EA
      clear hbr
      go_wp2_with fail
      have hb1 := ba wr (.cells #[.int .i64 e.kind, .int .i64 e.time, .int .i64 e.task, .int .i64 e.n, .int .i16 e.value, .int .i64 e.port] 26)
      have K1 := Lib.hid (bt HK.out hb1)
      have X1 := Lib.hid (EX.start wr e 26)
      clear hb1 c0 c1 c2 c3 c4 c5
      refine (rvalid_c e HX.out _).mono ?_
      rintro r w2 ⟨rfl, hb2⟩
      have K2 := Lib.hid (bt K1.out hb2)
      have X2 := X1.out.next hb2
      clear hb2 K1 X1
      cases hv : validE e
      · have HF := Lib.hid (HBD.out hv)
        clear hv
        go_wp2_with fail
        go_ret
        exact ⟨ret_str (by rw [HF.out]), K2.out⟩
      · have HV := Lib.hid (valid_ve hv)
        have HA2 := Lib.hid (HAS.out hv)
        obtain ⟨_, c0, c1, c2, c3, c4, c5, _⟩ := X2
        clear hv
        go_wp2_with fail
        refine (rline_c e HX.out HV.out _ (hr.next K2.out)).mono ?_
        rintro r w3 ⟨rfl, hb3⟩
        have K3 := Lib.hid (bt K2.out hb3)
        clear hb3 K2 c0 c1 c2 c3 c4 c5
        have hln := lineE_len HX.out
        have hlE : (lineN e).length ≤ 118 := by unfold lineE at hln; rw [List.length_append] at hln; omega
        clear hln
        generalize txt (l.take k) = tx at *
        have r3 := fun W => run_string_add_sum (P := Tryd.prog) W ⟨tx.toArray⟩ ⟨(lineN e).toArray⟩ (by simp [ByteArray.size] at *; omega)
        have r4 := fun W => run_string_add_sum (P := Tryd.prog) W (⟨tx.toArray⟩ ++ ⟨(lineN e).toArray⟩) ⟨#[10]⟩ (by simp [ByteArray.size] at *; omega)
        go_wp2_with fail
        go_roundw
        case rel => exact ⟨k + 1, by omega, by go_num, by rw [HT.out, show (⟨#[10]⟩ : ByteArray) = ⟨([10] : List UInt8).toArray⟩ from rfl, bytes_append, bytes_append, List.append_assoc]; rfl, HA2.out, K3.out⟩
        case measure => simp [intOf]; omega
    · obtain rfl : k = l.length := by omega
      rw [List.take_length] at HA ⊢
      have HF := Lib.hid (show fmtL l = txt l from by unfold fmtL; rw [if_pos HA.out])
      go_wp2_with fail
      go_ret
      exact ⟨ret_str (by rw [HF.out]), HK.out⟩
end Go.Proofs.YtdfconiahfdhbaaDoor
