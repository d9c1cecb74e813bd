/-
  trickleref11: Mnemonic, Shape, has, register, below, Valid. Printed by gen_ref.py.
-/
import Derived.Test.YtpgjmegecfaijaaDoorValid
namespace Go.Proofs.YtpgjmegecfaijaaDoor
open Go.RowKit

theorem nam_at : ∀ i, (h : i < 31) → ([.string ⟨#[]⟩, .string ⟨#[104, 97, 108, 116]⟩, .string ⟨#[109, 111, 118, 105]⟩, .string ⟨#[109, 111, 118]⟩, .string ⟨#[110, 101, 103]⟩, .string ⟨#[110, 111, 116]⟩, .string ⟨#[97, 100, 100]⟩, .string ⟨#[115, 117, 98]⟩, .string ⟨#[109, 117, 108]⟩, .string ⟨#[100, 105, 118]⟩, .string ⟨#[109, 111, 100]⟩, .string ⟨#[101, 113]⟩, .string ⟨#[108, 116]⟩, .string ⟨#[108, 101]⟩, .string ⟨#[108, 111, 97, 100]⟩, .string ⟨#[115, 116, 111, 114, 101]⟩, .string ⟨#[108, 111, 97, 100, 120]⟩, .string ⟨#[115, 116, 111, 114, 101, 120]⟩, .string ⟨#[105, 110, 100, 101, 120]⟩, .string ⟨#[115, 112, 105, 108, 108]⟩, .string ⟨#[102, 105, 108, 108]⟩, .string ⟨#[106, 117, 109, 112]⟩, .string ⟨#[106, 117, 109, 112, 122]⟩, .string ⟨#[114, 101, 97, 100]⟩, .string ⟨#[115, 101, 110, 100]⟩, .string ⟨#[101, 109, 105, 116]⟩, .string ⟨#[111, 117, 116]⟩, .string ⟨#[108, 111, 103]⟩, .string ⟨#[108, 111, 103, 120]⟩, .string ⟨#[99, 111, 109, 109, 105, 116]⟩, .string ⟨#[110, 111, 112]⟩] : List Value)[i]'h = .string (nam i)
  | 0, _ => rfl
  | 1, _ => rfl
  | 2, _ => rfl
  | 3, _ => rfl
  | 4, _ => rfl
  | 5, _ => rfl
  | 6, _ => rfl
  | 7, _ => rfl
  | 8, _ => rfl
  | 9, _ => rfl
  | 10, _ => rfl
  | 11, _ => rfl
  | 12, _ => rfl
  | 13, _ => rfl
  | 14, _ => rfl
  | 15, _ => rfl
  | 16, _ => rfl
  | 17, _ => rfl
  | 18, _ => rfl
  | 19, _ => rfl
  | 20, _ => rfl
  | 21, _ => rfl
  | 22, _ => rfl
  | 23, _ => rfl
  | 24, _ => rfl
  | 25, _ => rfl
  | 26, _ => rfl
  | 27, _ => rfl
  | 28, _ => rfl
  | 29, _ => rfl
  | 30, _ => rfl
  | i + 31, h => by omega
theorem nam_out {op : Int} (h : op < 1 ∨ 30 < op) : nam op.toNat = ⟨#[]⟩ := by
  rcases h with h | h
  · rw [show op.toNat = 0 from by omega]; rfl
  · obtain ⟨k, hk⟩ : ∃ k, op.toNat = k + 31 := ⟨op.toNat - 31, by omega⟩
    rw [hk]; rfl
theorem shp_out {op : Int} (h : op < 1 ∨ 30 < op) : shp op.toNat = [] := by
  rcases h with h | h
  · rw [show op.toNat = 0 from by omega]; rfl
  · obtain ⟨k, hk⟩ : ∃ k, op.toNat = k + 31 := ⟨op.toNat - 31, by omega⟩
    rw [hk]; rfl
theorem ops_cases {op : Int} (h : 1 ≤ op ∧ op ≤ 30) : op = 1 ∨ op = 2 ∨ op = 3 ∨ op = 4 ∨ op = 5 ∨ op = 6 ∨ op = 7 ∨ op = 8 ∨ op = 9 ∨ op = 10 ∨ op = 11 ∨ op = 12 ∨ op = 13 ∨ op = 14 ∨ op = 15 ∨ op = 16 ∨ op = 17 ∨ op = 18 ∨ op = 19 ∨ op = 20 ∨ op = 21 ∨ op = 22 ∨ op = 23 ∨ op = 24 ∨ op = 25 ∨ op = 26 ∨ op = 27 ∨ op = 28 ∨ op = 29 ∨ op = 30 := by omega
theorem mnem_c (op : Int) (w : World) : Calls Tryd.prog 39 #[.int .i64 op] w fun e w' => e = .returned (.string (nam op.toNat)) ∧ Below w.heap.size w w' := by
  by_cases h : 1 ≤ op ∧ op ≤ 30
  · obtain ⟨h0, h1⟩ := h
    go_enter Tryd.func39, Tryd.ntmps39
    go_wp2_with fail
    go_ret
    exact ⟨congrArg Ending.returned (nam_at op.toNat (by omega)), ba w _⟩
  · have H := Lib.hid h
    clear h
    have h : op < 1 ∨ 31 ≤ op := by have := H.out; omega
    go_enter Tryd.func39, Tryd.ntmps39
    go_wp2_with fail
    all_goals go_ret
    all_goals exact ⟨ret_str (nam_out (by have := H.out; omega)).symm, ba w _⟩
def shc (o : Int) : UInt8 := if o = 0 then 97 else if o = 1 then 98 else if o = 2 then 99 else 105
def shs (l : List Int) : ByteArray := ⟨(l.map shc).toArray⟩
set_option maxHeartbeats 4000000 in
theorem shape_c (op : Int) (w : World) : Calls Tryd.prog 40 #[.int .i64 op] w fun e w' => e = .returned (.string (shs (shp op.toNat))) ∧ w' = w := by
  go_enter Tryd.func40, Tryd.ntmps40
  go_wp2_with fail
  all_goals go_ret
  all_goals refine ⟨ret_str ?_, rfl⟩
  all_goals go_light
  all_goals simp only [beq_iff_eq, beq_eq_false_iff_ne, ne_eq] at *
  all_goals first | (subst_vars; rfl) | skip
  by_cases h : 1 ≤ op ∧ op ≤ 30
  · have : op = 1 ∨ op = 30 := by omega
    rcases this with rfl | rfl <;> rfl
  · rw [shp_out (by omega)]; rfl
def lim (op : Int) : Int := if op = 14 ∨ op = 15 ∨ op = 27 then 16383 else if op = 18 then 32 else if op = 19 ∨ op = 20 then 64 else if op = 21 ∨ op = 22 then 480 else if op = 23 then 8 else if op = 24 then 8 else if op = 26 then 8 else if op = 29 then 120 else 0
set_option maxHeartbeats 4000000 in
theorem lim_c (op : Int) (w : World) : Calls Tryd.prog 43 #[.int .i64 op] w fun e w' => e = .returned (.int .i64 (lim op)) ∧ w' = w := by
  go_enter Tryd.func43, Tryd.ntmps43
  go_wp2_with fail
  all_goals go_ret
  all_goals refine ⟨ret_int ?_, rfl⟩
  all_goals go_light
  all_goals simp only [beq_iff_eq, beq_eq_false_iff_ne, ne_eq] at *
  all_goals (unfold lim; simp [*])
theorem has_c (s : ByteArray) (hs : s.size ≤ 1000) (c : UInt8) (w : World) : Calls Tryd.prog 42 #[.string s, .int .u8 c.toNat] w fun e w' => e = .returned (.bool (decide (c ∈ s.data.toList))) ∧ w' = w := by
  go_enter Tryd.func42, Tryd.ntmps42
  go_wp2_with fail
  go_loop [5] (fun i => ∃ k : Nat, k ≤ s.size ∧ i = .int .i64 k ∧ c ∉ s.data.toList.take k) (fun i => s.size - (intOf i).toNat)
  case atStart => exact ⟨0, by omega, rfl, by simp⟩
  case round =>
    obtain ⟨k, hk, rfl, hn⟩ := hrel
    have HN := Lib.hid hn
    clear hn
    by_cases hlt : k < s.size
    · by_cases he : s[k] = c
      · subst he
        go_wp2_with fail
        go_ret
        have hm : s[k] ∈ s.data := Array.getElem_mem _
        exact ⟨ret_bool (by simp [hm]), rfl⟩
      · have hne : ¬(s[k].toNat : Int) = (c.toNat : Int) := fun e => he (UInt8.toNat_inj.1 (by omega))
        have HE := Lib.hid he
        clear he
        go_wp2_with fail
        go_round
        case rel =>
          refine ⟨k + 1, by omega, by go_num, ?_⟩
          have hkl : k < s.data.toList.length := by simpa using hlt
          rw [List.take_succ_eq_append_getElem hkl, List.mem_append, List.mem_singleton]
          intro h
          rcases h with h | h
          · exact HN.out h
          · exact HE.out (Eq.trans (by simp; rfl) h.symm)
        case measure => simp [intOf]; omega
    · obtain rfl : k = s.size := by omega
      go_wp2_with fail
      go_ret
      refine ⟨ret_bool ?_, rfl⟩
      have := HN.out
      rw [List.take_of_length_le (by simp)] at this
      simp at this
      simp [this]

end Go.Proofs.YtpgjmegecfaijaaDoor
