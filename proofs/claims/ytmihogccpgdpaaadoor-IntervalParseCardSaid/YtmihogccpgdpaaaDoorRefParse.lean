/-
  trickleref05's Parse: what it returns.
-/
import Derived.Test.YtmihogccpgdpaaaDoorRef
import Derived.Test.YtmihogccpgdpaaaDoorOps
import Derived.Deep.DeepCutAuto
import Derived.Deep.CutBlock
namespace Go.Proofs.YtmihogccpgdpaaaDoor
open Go.RowKit

theorem occ_iff (s : ByteArray) (i : Nat) (h : i + 1 < s.size) : Lib.occAt s.data.toList [46, 46] i = true ↔ s[i] = 46 ∧ s[i + 1] = 46 := by
  have hl : s.data.toList.length = s.size := by simp
  have e : s.data.toList.drop i = s[i] :: s[i + 1] :: s.data.toList.drop (i + 2) := by
    rw [List.drop_eq_getElem_cons (by omega), List.drop_eq_getElem_cons (by omega)]; rfl
  unfold Lib.occAt
  rw [e]
  simp [List.isPrefixOf]
  constructor
  · rintro ⟨h1, h2⟩; exact ⟨h1.symm, h2.symm⟩
  · rintro ⟨h1, h2⟩; exact ⟨h1.symm, h2.symm⟩

/-- the two times that Parse takes a text apart into -/
def fvals (s : List UInt8) : Int × Int :=
  if 0 ≤ Lib.index s [46, 46] then (numv (s.take (Lib.index s [46, 46]).toNat), numv (s.drop ((Lib.index s [46, 46]).toNat + 2))) else (numv s, numv s)
theorem fvals_none {s : List UInt8} (h : Lib.index s [46, 46] = -1) : fvals s = (numv s, numv s) := by unfold fvals; rw [h, if_neg (by decide)]
theorem fvals_some {s : List UInt8} {j : Nat} (h : Lib.index s [46, 46] = j) : fvals s = (numv (s.take j), numv (s.drop (j + 2))) := by unfold fvals; rw [h, if_pos (by omega)]; simp

/-- the result's cells and those of x -/
structure RX (w : World) (lo hi : Int) (W : World) : Prop where
  below : Below w.heap.size w W
  size : w.heap.size + 2 ≤ W.heap.size
  r0 : W.cell? ⟨w.heap.size, 0, none⟩ = some (.int .i64 0)
  r1 : W.cell? ⟨w.heap.size, 1, none⟩ = some (.int .i64 0)
  x0 : W.cell? ⟨w.heap.size + 1, 0, none⟩ = some (.int .i64 lo)
  x1 : W.cell? ⟨w.heap.size + 1, 1, none⟩ = some (.int .i64 hi)
  f0 : W.frozen? ⟨w.heap.size, 0, none⟩ = false
  f1 : W.frozen? ⟨w.heap.size, 1, none⟩ = false
  g0 : W.frozen? ⟨w.heap.size + 1, 0, none⟩ = false
  g1 : W.frozen? ⟨w.heap.size + 1, 1, none⟩ = false
theorem RX.next {w W W' : World} {a b : Int} (h : RX w a b W) (hb : Below W.heap.size W W') : RX w a b W' := by
  obtain ⟨hc, hf⟩ := bcell hb
  have hs := h.size
  exact ⟨h.below.trans (hb.mono h.below.size), Nat.le_trans hs hb.size, (hc _ _ (by omega)).trans h.r0, (hc _ _ (by omega)).trans h.r1, (hc _ _ (by omega)).trans h.x0, (hc _ _ (by omega)).trans h.x1, (hf _ _ (by omega)).trans h.f0, (hf _ _ (by omega)).trans h.f1, (hf _ _ (by omega)).trans h.g0, (hf _ _ (by omega)).trans h.g1⟩
theorem RX.start (w : World) (a b : Int) : RX w a b ((w.alloc (.cells #[.int .i64 0, .int .i64 0] 23)).alloc (.cells #[.int .i64 a, .int .i64 b] 23)) := by
  refine ⟨((Below.refl _ _).alloc (Nat.le_refl _) _).alloc (by simp) _, by simp, ?_, ?_, ?_, ?_, ?_, ?_, ?_, ?_⟩ <;> go_simp

theorem RX.store {w W : World} {a b : Int} (h : RX w a b W) (lo hi : Int) : RX w lo hi ((W.setCell ⟨w.heap.size + 1, 0, none⟩ (.int .i64 lo)).setCell ⟨w.heap.size + 1, 1, none⟩ (.int .i64 hi)) := by
  obtain ⟨kb, ks, kr0, kr1, kx0, kx1, kf0, kf1, kg0, kg1⟩ := h
  refine ⟨(kb.setCell (by simp) _).setCell (by simp) _, by simpa using ks, ?_, ?_, ?_, ?_, ?_, ?_, ?_, ?_⟩ <;> go_simp
theorem is46 {c : UInt8} (h : c = 46) : ((c.toNat : Int) == 46) = true := by rw [h]; rfl
theorem not46 {c : UInt8} (h : ¬ c = 46) : ((c.toNat : Int) == 46) = false := by
  have : c.toNat ≠ 46 := fun e => h (UInt8.toNat_inj.1 e)
  simp; omega
/-- what Parse answers, of the two times -/
def rxE (lo hi : Int) (s : List UInt8) : Ending := if vld lo hi = true ∧ fmtIv lo hi = s then ivE lo hi 0 else ivE 0 0 2
theorem rxE_yes {lo hi : Int} {s : List UInt8} (h : vld lo hi = true) (h2 : fmtIv lo hi = s) : rxE lo hi s = ivE lo hi 0 := by unfold rxE; rw [if_pos ⟨h, h2⟩]
theorem rxE_no {lo hi : Int} {s : List UInt8} (h : ¬ (vld lo hi = true ∧ fmtIv lo hi = s)) : rxE lo hi s = ivE 0 0 2 := by unfold rxE; rw [if_neg h]

set_option maxHeartbeats 1000000 in
theorem rparse_c (s : ByteArray) (hs : s.size ≤ 140737488351232) (w : World) :
    Calls Tryd.prog 27 #[.string s] w fun e w' => e = rxE (fvals s.data.toList).1 (fvals s.data.toList).2 s.data.toList ∧ Below w.heap.size w w' := by
  obtain ⟨x, hx⟩ : ∃ x, x = fvals s.data.toList := ⟨_, rfl⟩
  rw [← hx]
  have HX := Lib.hid hx
  clear hx
  obtain ⟨lo, hi⟩ := x
  go_enter Tryd.func27, Tryd.ntmps27
  go_upto_block 0 with (go_at_call 37; refine (number_c _ hs _).mono ?_; rintro e w1 ⟨rfl, rfl⟩)
  go_cut [] (fun wx => RX w lo hi wx)
  case first =>
    have k0 := RX.start w (numv s.data.toList) (numv s.data.toList)
    generalize (w.alloc (Obj.cells #[Value.int IntKind.i64 0, Value.int IntKind.i64 0] 23)).alloc (Obj.cells #[Value.int IntKind.i64 (numv s.data.toList), Value.int IntKind.i64 (numv s.data.toList)] 23) = W at *
    rcases Lib.index_spec s.data.toList [46, 46] with ⟨h1, h2⟩ | ⟨j, h1, hj, h2, h3⟩
    · rw [fvals_none h1] at HX
      obtain ⟨rfl, rfl⟩ : lo = numv s.data.toList ∧ hi = numv s.data.toList := ⟨congrArg Prod.fst HX.out, congrArg Prod.snd HX.out⟩
      have H2 := Lib.hid h2
      clear h2 h1 HX
      go_wp2_with fail
      go_loop [5] (fun i => ∃ k : Nat, k ≤ s.size ∧ i = .int .i64 k) (fun i => s.size - (intOf i).toNat)
      case atStart => exact ⟨0, by omega, rfl⟩
      case round =>
        obtain ⟨k, hk, rfl⟩ := hrel
        by_cases hlt : k + 1 < s.size
        · have hlt' : (k : Int) + 1 < (s.size : Int) := by omega
          have hn := H2.out k (by simp; omega)
          have hne : ¬ (s[k] = 46 ∧ s[k + 1] = 46) := by rw [← occ_iff s k hlt, hn]; decide
          clear hn
          by_cases q : s[k] = 46
          · have t1 := is46 q
            have t2 := not46 (fun e => hne ⟨q, e⟩)
            clear hne q
            go_wp2_with fail
            go_round
            case rel => exact ⟨k + 1, by omega, by go_num⟩
            case measure => simp [intOf]; omega
          · have t1 := not46 q
            clear hne q
            go_wp2_with fail
            go_round
            case rel => exact ⟨k + 1, by omega, by go_num⟩
            case measure => simp [intOf]; omega
        · have hge : ¬ (k : Int) + 1 < (s.size : Int) := by omega
          go_wp2_with fail
          go_meet
          exact k0
    · rw [fvals_some h1] at HX
      have H3 := Lib.hid h3
      have hsz : j + 1 < s.size := by
        have := Lib.index_room s.data.toList [46, 46] (by rw [h1]; omega)
        rw [h1] at this; simp at this; omega
      have ho := (occ_iff s j hsz).1 h2
      have HO := Lib.hid ho
      clear h3 h2 h1 ho hj
      go_wp2_with fail
      go_loop [5] (fun i => ∃ k : Nat, k ≤ j ∧ i = .int .i64 k) (fun i => j - (intOf i).toNat)
      case atStart => exact ⟨0, by omega, rfl⟩
      case round =>
        obtain ⟨k, hk, rfl⟩ := hrel
        have hlt : k + 1 < s.size := by omega
        have hlt' : (k : Int) + 1 < (s.size : Int) := by omega
        by_cases hkj : k < j
        · have hn := H3.out k hkj
          have hne : ¬ (s[k] = 46 ∧ s[k + 1] = 46) := by rw [← occ_iff s k hlt, hn]; decide
          clear hn
          by_cases q : s[k] = 46
          · have t1 := is46 q
            have t2 := not46 (fun e => hne ⟨q, e⟩)
            clear hne q
            go_wp2_with fail
            go_round
            case rel => exact ⟨k + 1, by omega, by go_num⟩
            case measure => simp [intOf]; omega
          · have t1 := not46 q
            clear hne q
            go_wp2_with fail
            go_round
            case rel => exact ⟨k + 1, by omega, by go_num⟩
            case measure => simp [intOf]; omega
        · obtain rfl : k = j := by omega
          have t1 := is46 HO.out.1
          have t2 := is46 HO.out.2
          go_wp2_with fail
          have b1 : (0 : Int) ≤ (k : Int) := by omega
          have b2 : (k : Int) ≤ (s.size : Int) := by omega
          have b3 : (k : Int) + 2 ≤ (s.size : Int) := by omega
          have b4 : (0 : Int) ≤ (k : Int) + 2 := by omega
          have e1 : IntKind.i64.wrap ((k : Int) + 2) = (k : Int) + 2 := IntWalk.i64_in _ ⟨by omega, by omega⟩
          have e2 : ((k : Int) + 2).toNat = k + 2 := by omega
          obtain ⟨kb, ks, kr0, kr1, kx0, kx1, kf0, kf1, kg0, kg1⟩ := id k0
          go_region_held3 (fun _ => True) (exact trivial)
            (first | (go_at_call 37; refine (number_c _ (by simp; omega) _).mono ?_; rintro e w1 ⟨rfl, rfl⟩))
          go_wp2_with fail
          go_meet
          have q1 : lo = numv (List.take k s.data.toList) := congrArg Prod.fst HX.out
          have q2 : hi = numv (List.drop (k + 2) s.data.toList) := congrArg Prod.snd HX.out
          rw [List.take_of_length_le (l := List.drop (k + 2) s.data.toList) (by simp), ← q1, ← q2]
          exact (k0.store lo hi).next (World.drewB _)
  case rest =>
    clear HX
    have k1 := hcut
    clear hcut
    obtain ⟨kb, ks, kr0, kr1, kx0, kx1, kf0, kf1, kg0, kg1⟩ := id k1
    cases h1 : vld lo hi
    · go_wp2_with fail
      refine (rvalid_c _ _ _).mono ?_
      rintro e w2 ⟨rfl, hb2⟩
      have k2 := k1.next hb2
      clear hb2 k1
      clear kb ks kr0 kr1 kx0 kx1 kf0 kf1 kg0 kg1
      obtain ⟨kb, ks, kr0, kr1, kx0, kx1, kf0, kf1, kg0, kg1⟩ := id k2
      rw [h1]
      go_wp2_with fail
      exact bodyPost_ret (v := .tuple #[iv 0 0, .int .i64 2]) (by simp [results, Tryd.results27, go_sem, *]) rfl ⟨by rw [rxE_no (by simp [h1])], (by repeat' first | exact kb | refine Below.drew ?_ | refine Below.alloc ?_ ?_ _ | refine Below.setCell ?_ ?_ _ | omega | (simp; omega) | simp)⟩
    · by_cases hq : fmtIv lo hi = s.data.toList
      · have hf : (!fmtIv lo hi == s.toList) = false := by rw [Lib.toList_data, hq]; simp
        have HQ := Lib.hid hq
        clear hq
        go_wp2_with fail
        refine (rvalid_c _ _ _).mono ?_
        rintro e w2 ⟨rfl, hb2⟩
        have k2 := k1.next hb2
        clear hb2 k1
        clear kb ks kr0 kr1 kx0 kx1 kf0 kf1 kg0 kg1
        obtain ⟨kb, ks, kr0, kr1, kx0, kx1, kf0, kf1, kg0, kg1⟩ := id k2
        rw [h1]
        go_wp2_with fail
        refine (rformat_c _ _ _).mono ?_
        rintro e w3 ⟨rfl, hb3⟩
        have k3 := k2.next hb3
        clear hb3 k2
        clear kb ks kr0 kr1 kx0 kx1 kf0 kf1 kg0 kg1
        obtain ⟨kb, ks, kr0, kr1, kx0, kx1, kf0, kf1, kg0, kg1⟩ := id k3
        go_wp2_with fail
        exact bodyPost_ret (v := .tuple #[iv lo hi, .int .i64 0]) (by simp [results, Tryd.results27, go_sem, *]) rfl ⟨by rw [rxE_yes h1 HQ.out], (by repeat' first | exact kb | refine Below.drew ?_ | refine Below.alloc ?_ ?_ _ | refine Below.setCell ?_ ?_ _ | omega | (simp; omega) | simp)⟩
      · have hf : (!fmtIv lo hi == s.toList) = true := by rw [Lib.toList_data]; simpa using hq
        have HQ := Lib.hid hq
        clear hq
        go_wp2_with fail
        refine (rvalid_c _ _ _).mono ?_
        rintro e w2 ⟨rfl, hb2⟩
        have k2 := k1.next hb2
        clear hb2 k1
        clear kb ks kr0 kr1 kx0 kx1 kf0 kf1 kg0 kg1
        obtain ⟨kb, ks, kr0, kr1, kx0, kx1, kf0, kf1, kg0, kg1⟩ := id k2
        rw [h1]
        go_wp2_with fail
        refine (rformat_c _ _ _).mono ?_
        rintro e w3 ⟨rfl, hb3⟩
        have k3 := k2.next hb3
        clear hb3 k2
        clear kb ks kr0 kr1 kx0 kx1 kf0 kf1 kg0 kg1
        obtain ⟨kb, ks, kr0, kr1, kx0, kx1, kf0, kf1, kg0, kg1⟩ := id k3
        go_wp2_with fail
        exact bodyPost_ret (v := .tuple #[iv 0 0, .int .i64 2]) (by simp [results, Tryd.results27, go_sem, *]) rfl ⟨by rw [rxE_no (fun h => HQ.out h.2)], (by repeat' first | exact kb | refine Below.drew ?_ | refine Below.alloc ?_ ?_ _ | refine Below.setCell ?_ ?_ _ | omega | (simp; omega) | simp)⟩
end Go.Proofs.YtmihogccpgdpaaaDoor
