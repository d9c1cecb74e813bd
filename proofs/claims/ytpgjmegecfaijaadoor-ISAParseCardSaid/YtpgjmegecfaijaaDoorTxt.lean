/-
  The text of an instruction, taken apart again: plain mathematics.
-/
import Derived.Test.YtpgjmegecfaijaaDoorRFmt
import Derived.Test.YtpgjmegecfaijaaDoorSpl
namespace Go.Proofs.YtpgjmegecfaijaaDoor
open Go.RowKit

/-- s is the text of a valid instruction -/
def Txt (s : ByteArray) (op a b c m : Int) : Prop := vld op a b c m = true ∧ fmtS op a b c m = s
theorem nam_32 : ∀ n, (32 : UInt8) ∉ (nam n).data.toList := by intro n; unfold nam; split <;> decide
theorem nam_inj {x y : Int} (hx : 1 ≤ x ∧ x ≤ 30) (hy : 0 ≤ y ∧ y ≤ 30) (h : nam x.toNat = nam y.toNat) : x = y := by
  have key : ∀ i : Fin 31, ∀ j : Fin 31, 1 ≤ i.val → nam i.val = nam j.val → i = j := by decide
  have := key ⟨x.toNat, by omega⟩ ⟨y.toNat, by omega⟩ (by simp; omega) h
  have h2 : x.toNat = y.toNat := congrArg Fin.val this
  omega
theorem fmtS_list (op a b c m : Int) : (fmtS op a b c m).data.toList = (nam op.toNat).data.toList ++ (if shp op.toNat = [] then [] else [32] ++ Lib.join ((opTs op a b c m).map (·.data.toList)) [44, 32]) := by
  unfold fmtS fmtJ
  by_cases h : shp op.toNat = []
  · rw [if_pos (by rw [h]; rfl), if_pos h]; simp
  · rw [if_neg (by simpa using h), if_neg h]; simp
theorem txt_cut {s : ByteArray} {op a b c m : Int} (h : Txt s op a b c m) : (Lib.cut s.data.toList [32]).1 = (nam op.toNat).data.toList ∧ (shp op.toNat ≠ [] → (Lib.cut s.data.toList [32]).2.1 = Lib.join ((opTs op a b c m).map (·.data.toList)) [44, 32]) ∧ (shp op.toNat = [] → (Lib.cut s.data.toList [32]).2.1 = []) := by
  rw [← h.2, fmtS_list]
  by_cases hs : shp op.toNat = []
  · rw [if_pos hs, List.append_nil, cut_none (nam_32 _)]
    exact ⟨rfl, fun e => absurd hs e, fun _ => rfl⟩
  · rw [if_neg hs, ← List.append_assoc, cut_at (nam_32 _)]
    exact ⟨rfl, fun _ => rfl, fun e => absurd e hs⟩
theorem dig_ne (u : Nat) (x : UInt8) (hx : x.toNat < 48 ∨ 57 < x.toNat) : x ∉ Lib.decDigits u := fun h => by have := Dec.decDigits_dig u x h; omega
theorem itoa_ne (n : Int) (x : UInt8) (hx : x.toNat < 48 ∨ 57 < x.toNat) (h45 : x ≠ 45) : x ∉ Lib.itoa n := by
  by_cases hn : n < 0
  · rw [Dec.itoa_neg hn]
    intro h
    rcases List.mem_cons.1 h with h | h
    · exact h45 h
    · exact dig_ne _ _ hx h
  · rw [Dec.itoa_nonneg (by omega)]
    exact dig_ne _ _ hx
theorem opT_44 (a b c m o : Int) : (44 : UInt8) ∉ (opT a b c m o).data.toList := by
  unfold opT
  split
  · exact itoa_ne m 44 (by decide) (by decide)
  · simpa using itoa_ne (fieldOf a b c m o) 44 (by decide) (by decide)
theorem opT_trim (a b c m o : Int) : Lib.trimPrefix (opT a b c m o).data.toList [114] = Lib.itoa (fieldOf a b c m o) ∨ (o = 3 ∧ Lib.trimPrefix (opT a b c m o).data.toList [114] = Lib.itoa m) := by
  by_cases h3 : o = 3
  · refine .inr ⟨h3, ?_⟩
    unfold opT Lib.trimPrefix
    rw [if_pos h3]
    have hn := itoa_ne m 114 (by decide) (by decide)
    have : Lib.hasPrefix (Lib.itoa m) [114] = false := by
      cases hi : Lib.itoa m with
      | nil => rfl
      | cons x r =>
        have hx2 : (114 == x) = false := by
          rw [beq_eq_false_iff_ne]
          exact fun e => hn (by rw [hi, ← e]; simp)
        simp [Lib.hasPrefix, List.isPrefixOf, hx2]
    simp [this]
  · refine .inl ?_
    unfold opT Lib.trimPrefix
    rw [if_neg h3]
    have : Lib.hasPrefix ((⟨#[114]⟩ : ByteArray) ++ ⟨(Lib.itoa (fieldOf a b c m o)).toArray⟩).data.toList [114] = true := by simp [Lib.hasPrefix]
    rw [if_pos this]
    simp
theorem opT_parse {a b c m o : Int} (ho : o = 0 ∨ o = 1 ∨ o = 2 ∨ o = 3) (hm : -32768 ≤ m ∧ m ≤ 32767) (ha : 0 ≤ a ∧ a < 8) (hb : 0 ≤ b ∧ b < 8) (hc : 0 ≤ c ∧ c < 8) : Lib.parseIntB 16 (Lib.trimPrefix (opT a b c m o).data.toList [114]) = .ok (fieldOf a b c m o) := by
  have hf : -32768 ≤ fieldOf a b c m o ∧ fieldOf a b c m o ≤ 32767 := by
    rcases ho with rfl | rfl | rfl | rfl <;> simp [fieldOf] <;> omega
  have key : Lib.trimPrefix (opT a b c m o).data.toList [114] = Lib.itoa (fieldOf a b c m o) := by
    rcases opT_trim a b c m o with h | ⟨rfl, h⟩
    · exact h
    · rw [h]; rfl
  rw [key]
  exact Dec.parseIntB_itoa 16 _ (by decide) (by decide) (by simpa using hf.1) (by have := hf.2; simp; omega)
theorem txt_pieces {s : ByteArray} {op a b c m : Int} (h : Txt s op a b c m) (hne : shp op.toNat ≠ []) : pieces ⟨(Lib.cut s.data.toList [32]).2.1.toArray⟩ ⟨#[44, 32]⟩ = opTs op a b c m := by
  refine pieces_join (c := 44) (r := [32]) rfl (by unfold opTs; simpa using hne) (fun x hx => ?_) ?_
  · unfold opTs at hx
    obtain ⟨o, _, rfl⟩ := List.mem_map.1 hx
    exact opT_44 a b c m o
  · rw [← (txt_cut h).2.1 hne]
theorem txt_ne {s : ByteArray} {op a b c m : Int} (h : Txt s op a b c m) : s ≠ ⟨#[]⟩ := by
  intro e
  have h1 := (txt_cut h).1
  rw [e] at h1
  obtain ⟨ho, -⟩ := vld_bounds h.1
  have h2 := nam_in op.toNat (by omega) (by omega)
  apply h2
  apply bytes_ext
  rw [← h1]; rfl
theorem txt_bound {s : ByteArray} {op a b c m : Int} (hm : -32768 ≤ m ∧ m ≤ 32767) (h : Txt s op a b c m) : s.size ≤ 100 := by
  obtain ⟨-, ha, hb, hc⟩ := vld_bounds h.1
  rw [← h.2, ← facc_fmt]
  have := facc_size (nam op.toNat) (shp op.toNat) a b c m (nam_len _) hm ha hb hc (shp op.toNat).length
  have := shp_len op.toNat
  omega
end Go.Proofs.YtpgjmegecfaijaaDoor
