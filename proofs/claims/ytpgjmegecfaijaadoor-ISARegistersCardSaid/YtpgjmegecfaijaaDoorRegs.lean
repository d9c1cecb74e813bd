/-
  Registers that an instruction reads and writes: isa.registers, trickleref11.set, Defines.
-/
import Derived.Test.YtpgjmegecfaijaaDoorNext
import Derived.OwnWalk
import Derived.Laws.OwnMore
import Derived.Deep.AppendLies
namespace Go.Proofs.YtpgjmegecfaijaaDoor
open Go.RowKit Go.Sort

theorem info3 : (Tryd.prog.info? 3).map (fun i => (i.zero, i.size, i.bytes)) = some (some (.int .i64 0), 1, 8) := by kernel_rfl
/-- the numbers below r that a list holds, in order -/
def setTo (l : List Int) : Nat → List Int
  | 0 => []
  | r + 1 => setTo l r ++ if (r : Int) ∈ l then [(r : Int)] else []
theorem setTo_succ (l : List Int) (r : Nat) : setTo l (r + 1) = setTo l r ++ if (r : Int) ∈ l then [(r : Int)] else [] := rfl
theorem setTo_len (l : List Int) : ∀ r, (setTo l r).length ≤ r
  | 0 => Nat.le_refl _
  | r + 1 => by
    have := setTo_len l r
    rw [setTo_succ, List.length_append]
    split <;> simp <;> omega
theorem Lst.of_own {w : World} {base n : Nat} {v : Value} {l : List Int} (h : w.ownsRow base 3 1 v n (l.map (Value.int .i64))) : ∃ sa cap, v = .slice sa l.length cap ∧ Lst w sa l := by
  have hn : l.length = n := by simpa using h.1
  by_cases h0 : 0 < n
  · obtain ⟨g, cap, hv, _, hlt⟩ := h.form h0
    refine ⟨_, cap, by rw [hn]; exact hv, ⟨fun j x hj => ⟨g, rfl, hlt, ?_⟩⟩⟩
    have := h.cells (g := g) (by rw [hv]; rfl) j (.int .i64 x) (by rw [List.getElem?_map, hj]; rfl)
    rcases j with _ | j
    · simpa [Addr.add] using this
    · simpa [Addr.add] using this
  · have hn0 : l = [] := List.eq_nil_of_length_eq_zero (by omega)
    subst hn0
    obtain ⟨hl, ⟨rfl, hx⟩ | ⟨g, cap, cur, rfl, hg, hh, h1, h2, h3, h4⟩⟩ := h
    · exact ⟨none, 0, rfl, Lst.empty _⟩
    · have : n = 0 := by omega
      subst this
      exact ⟨_, cap, rfl, Lst.empty _⟩
theorem mem_take_succ {l : List Int} {k : Nat} (x : Int) (hk : k < l.length) : decide (x ∈ l.take (k + 1)) = (decide (x ∈ l.take k) || decide (x = l[k])) := by
  rw [List.take_succ_eq_append_getElem hk]
  simp only [List.mem_append, List.mem_singleton, Bool.decide_or]
set_option maxRecDepth 100000 in
set_option maxHeartbeats 1000000 in
theorem set_l (l : List Int) (hl : l.length ≤ 3) (sa : Option Addr) (cap : Nat) (w : World) (L : Lst w sa l) : Calls Tryd.prog 50 #[.slice sa l.length cap] w (GivesL (setTo l 8) w) := by
  obtain ⟨i3, hi3, hz0, hz1, hz2⟩ := info_parts info3
  have HL := Lib.hid L
  have hl3 : (l.length : Int) ≤ 3 := by omega
  clear L
  go_enter Tryd.func50, Tryd.ntmps50
  go_wp2_with fail
  go_loopw [3, 4] (fun v i wr => ∃ r : Nat, r ≤ 8 ∧ i = .int .i64 r ∧ Below w.heap.size w wr ∧ wr.ownsRow w.heap.size 3 1 v (setTo l r).length ((setTo l r).map (Value.int .i64))) (fun _ i _ => 8 - (intOf i).toNat)
  case atStart => exact ⟨0, by omega, rfl, Below.refl _ _, World.ownsRow_nil _ _ _ _⟩
  case round =>
    obtain ⟨r, hr, rfl, hbr, hown⟩ := hrel
    by_cases hlt : r < 8
    · have hlt' : (r : Int) < 8 := by omega
      obtain ⟨wo, rfl⟩ : ∃ wo : World, wo = wr := ⟨_, rfl⟩
      have HB := Lib.hid hbr
      have HO := Lib.hid hown
      have hlen := setTo_len l r
      have hsz := hbr.size
      clear hbr hown
      go_wp2_with fail
      go_loop [5, 6] (fun f i => ∃ k : Nat, k ≤ l.length ∧ i = .int .i64 k ∧ f = .bool (decide ((r : Int) ∈ l.take k))) (fun _ i => l.length - (intOf i).toNat)
      case atStart => exact ⟨0, by omega, rfl, by simp⟩
      case round =>
        obtain ⟨k, hk, rfl, rfl⟩ := hrel
        by_cases hkl : k < l.length
        · obtain ⟨b, rfl, hb, hcell⟩ := (HL.out.next HB.out).at_ k _ (List.getElem?_eq_getElem hkl)
          have HT := Lib.hid (mem_take_succ (r : Int) hkl)
          generalize l[k] = x at *
          generalize decide ((r : Int) ∈ l.take k) = f0 at *
          by_cases hx : x = (r : Int)
          · go_wp2_with fail
            go_round
            case rel => exact ⟨k + 1, by omega, by go_num, by rw [HT.out, ← hx]; simp⟩
            case measure => simp [intOf]; omega
          · go_wp2_with fail
            go_round
            case rel => exact ⟨k + 1, by omega, by go_num, by rw [HT.out]; have : ¬ (r : Int) = x := fun e => hx e.symm; simp [this]⟩
            case measure => simp [intOf]; omega
        · obtain rfl : k = l.length := by omega
          rw [List.take_length]
          have hs := setTo_succ l r
          have HS := Lib.hid hs
          have hown := HO.out
          clear hs
          by_cases hm : (r : Int) ∈ l
          · rw [decide_eq_true hm]
            have HS2 := Lib.hid (show setTo l (r + 1) = setTo l r ++ [(r : Int)] from by rw [HS.out, if_pos hm])
            clear hm
            go_wp2_with (at_builtin; refine wpList_append_own _ rfl (.tmp 24) (.tmp 26) 37 rfl w.heap.size 3 i3 (.int .i64 0) 1 8 Tryd.underlying37 hi3 hz0 hz1 hz2 rfl (by decide) _ _ _ rfl (hown.alloc _) ⟨wo.heap.size, 0, none⟩ 1 1 [_] rfl rfl (cell_one_new _ _ _) (by intro u hu; simp at hu; subst hu; rfl) (by unfold maxLen; omega) (by omega) (by simp; omega) ?_; intro v1 w7 hown1 hgrow1 hnil1)
            go_roundw
            case rel =>
              refine ⟨r + 1, by omega, by go_num, ?_, ?_⟩
              · exact (HB.out.alloc (by omega) _).grown hgrow1 (by simp; omega) (fun j hj => (hown.lt j hj).1)
              · rw [HS2.out, List.map_append, List.length_append]
                exact hown1
            case measure => simp [intOf]; omega
          · rw [decide_eq_false hm]
            have HS2 := Lib.hid (show setTo l (r + 1) = setTo l r from by rw [HS.out, if_neg hm, List.append_nil])
            clear hm
            go_wp2_with fail
            go_roundw
            case rel => exact ⟨r + 1, by omega, by go_num, HB.out, by rw [HS2.out]; exact HO.out⟩
            case measure => simp [intOf]; omega
    · obtain rfl : r = 8 := by omega
      go_wp2_with fail
      go_ret
      obtain ⟨sa', cap', rfl, L'⟩ := Lst.of_own hown
      exact ⟨sa', cap', rfl, L', hbr⟩
theorem set_nil : setTo [] 8 = [] := rfl
theorem set_one {x : Int} (h0 : 0 ≤ x) (h1 : x < 8) : setTo [x] 8 = [x] := by
  have : x = 0 ∨ x = 1 ∨ x = 2 ∨ x = 3 ∨ x = 4 ∨ x = 5 ∨ x = 6 ∨ x = 7 := by omega
  rcases this with rfl | rfl | rfl | rfl | rfl | rfl | rfl | rfl <;> rfl
theorem set_two {x y : Int} (h0 : 0 ≤ x) (h1 : x < 8) (h2 : 0 ≤ y) (h3 : y < 8) : setTo [x, y] 8 = two x y := by
  have hx : x = 0 ∨ x = 1 ∨ x = 2 ∨ x = 3 ∨ x = 4 ∨ x = 5 ∨ x = 6 ∨ x = 7 := by omega
  have hy : y = 0 ∨ y = 1 ∨ y = 2 ∨ y = 3 ∨ y = 4 ∨ y = 5 ∨ y = 6 ∨ y = 7 := by omega
  clear h0 h1 h2 h3
  rcases hx with rfl | rfl | rfl | rfl | rfl | rfl | rfl | rfl <;> rcases hy with rfl | rfl | rfl | rfl | rfl | rfl | rfl | rfl <;> rfl

theorem regs_c (g cap n : Nat) (zs ms : List Int) (hms : (zs.mergeSort fun x y => decide (x ≤ y)) = ms) (w : World) (hH : Holds (Value.int .i64) w g 0 zs.toArray) (hg : g < w.heap.size) (hn : zs.length = n) (hl : n ≤ 2) (hcap : n ≤ cap) (hc : (Lib.compact ms).length ≤ n) :
    Calls Tryd.prog 48 #[.slice (some ⟨g, 0, none⟩) n cap] w fun e w' => e = .returned (.slice (some ⟨g, 0, none⟩) (Lib.compact ms).length cap) ∧ Lst w' (some ⟨g, 0, none⟩) (Lib.compact ms) ∧ w.grownBy w' (some g) := by
  have hl1 : ms.length = n := by rw [← hms, List.length_mergeSort]; exact hn
  have srt := sort_c g cap zs w hH hg (by omega)
  rw [hms, hn] at srt
  have HL := Lib.hid hl1
  clear hn hms hl1
  go_enter Tryd.func48, Tryd.ntmps48
  go_wp2_with fail
  refine srt.mono ?_
  rintro e w1 ⟨rfl, hH1, hg1⟩
  have hgl := Nat.lt_of_lt_of_le hg hg1.size
  have cpt := compact_c g cap ms _ hH1 hgl (by rw [HL.out]; omega) (by rw [HL.out]; exact hcap) (by rw [HL.out]; exact hc)
  rw [HL.out] at cpt
  go_wp2_with fail
  refine cpt.mono ?_
  rintro e w2 ⟨rfl, L2, hg2⟩
  go_wp2_with fail
  go_ret
  exact ⟨rfl, L2, hg1.trans hg2⟩
end Go.Proofs.YtpgjmegecfaijaaDoor
