/-
  Format: the text of a trace.
-/
import Derived.Test.YtgdaekjodhebfaaDoorBld
import Derived.Test.YtgdaekjodhebfaaDoorTxp
namespace Go.Proofs.YtgdaekjodhebfaaDoor
open Go.RowKit

theorem txt_le (l : List (Int × Int)) (h : InB l) : (txt l).length ≤ l.length * 44 := by
  induction l with
  | nil => simp [txt]
  | cons x l ih =>
    have h1 := h x (by simp)
    have h2 := lineT_len x h1.1 h1.2
    have h3 := ih (fun y hy => h y (by simp [hy]))
    rw [txt_cons]
    simp
    omega
theorem txt_take {l : List (Int × Int)} {k : Nat} (hk : k < l.length) : txt (l.take (k + 1)) = txt (l.take k) ++ lineT l[k] := by rw [List.take_succ_eq_append_getElem hk, txt_snoc]
set_option maxRecDepth 100000 in
set_option maxHeartbeats 1000000 in
theorem sformat_c (l : List (Int × Int)) (hl : l.length ≤ 1000) (hin : InB l) (tp : Nat) (w : World) (hr : Ready w) (T : Trc w tp l) : Calls Tryd.prog 24 #[.pointer (some ⟨tp, 0, none⟩)] w fun e w' => e = .returned (.string ⟨(txt l).toArray⟩) ∧ Below w.heap.size w w' := by
  obtain ⟨A, cap, hc0, -, C⟩ := T.is
  have hc := ((bcell (ba w (.cells #[.pointer none, .slice none 0 0] 69))).1 tp 0 T.lt).trans hc0
  clear hc0
  have HC := Lib.hid C
  have hl3 : (l.length : Int) ≤ 1000 := by omega
  have HI := Lib.hid hin
  have hB := Bld.fresh w
  clear C T hin
  go_enter Tryd.func24, Tryd.ntmps24
  go_wp2_with fail
  go_loopw [11] (fun i wr => ∃ k : Nat, k ≤ l.length ∧ i = .int .i64 k ∧ Bld w.heap.size w.heap.size (txt (l.take k)) wr ∧ Below w.heap.size w wr ∧ w.heap.size < wr.heap.size) (fun i _ => l.length - (intOf i).toNat)
  case atStart => exact ⟨0, by omega, rfl, hB, ba w _, by simp⟩
  case round =>
    obtain ⟨k, hk, rfl, B, hbr, hsz⟩ := hrel
    have HB := Lib.hid B
    have HK := Lib.hid hbr
    clear B hB
    by_cases hlt : k < l.length
    · obtain ⟨ad, rfl, had, c0, c1⟩ := (HC.out.next hbr).at_ k _ (List.getElem?_eq_getElem hlt)
      rw [← add_of_add, add_one] at c1
      have HT := Lib.hid (txt_take hlt)
      have HX := Lib.hid (HI.out l[k] (List.getElem_mem hlt))
      have HLE := Lib.hid (txt_le (l.take k) (fun y hy => HI.out y (List.mem_of_mem_take hy)))
      have hlk : (l.take k).length ≤ 1000 := by rw [List.length_take]; omega
      have HLK := Lib.hid hlk
      clear hlk
      generalize l[k] = x at *
      obtain ⟨tx, vx⟩ := x
      clear hbr
      go_wp2_with fail
      have hb1 := ba wr (.cells #[.int .i64 tx, .int .i16 vx] 29)
      have K1 := Lib.hid (HK.out.trans (hb1.mono HK.out.size))
      have B1 := Lib.hid (HB.out.next hb1)
      refine (line_c tx vx HX.out.1 HX.out.2 _ (hr.below K1.out)).mono ?_
      rintro e w2 ⟨rfl, hb2⟩
      have K2 := Lib.hid (K1.out.trans (hb2.mono K1.out.size))
      have B2 := Lib.hid (B1.out.next hb2)
      have hs2 := Nat.lt_of_lt_of_le (Nat.lt_of_lt_of_le hsz hb1.size) hb2.size
      clear hb1 hb2 K1 B1
      have hln := lineT_len (tx, vx) HX.out.1 HX.out.2
      have hsl : (⟨(lineT (tx, vx)).toArray⟩ : ByteArray).size ≤ 44 := by simpa [ByteArray.size] using hln
      clear hln
      go_wp2_with fail
      refine (write_c w.heap.size w.heap.size (txt (l.take k)) _ _ B2.out (by have := HLE.out; have := HLK.out; omega) (by omega)).mono ?_
      rintro e w3 ⟨rfl, B3, hb3⟩
      have K3 := Lib.hid (K2.out.trans hb3)
      have HB3 := Lib.hid B3
      have hs3 := Nat.lt_of_lt_of_le hs2 hb3.size
      clear B3 hb3
      go_wp2_with fail
      go_roundw
      case rel =>
        exact ⟨k + 1, by omega, by go_num, by rw [HT.out]; exact HB3.out, K3.out, hs3⟩
      case measure => simp [intOf]; omega
    · obtain rfl : k = l.length := by omega
      rw [List.take_length] at HB
      go_wp2_with fail
      refine (string_c w.heap.size w.heap.size (txt l) _ HB.out (by omega)).mono ?_
      rintro e w2 ⟨rfl, hb2⟩
      go_wp2_with fail
      go_ret
      exact ⟨rfl, HK.out.trans hb2⟩
end Go.Proofs.YtgdaekjodhebfaaDoor
