/-
  TraceKinds.
-/
import Derived.Test.YtdfconiahfdhbaaDoorAwk
import Derived.Test.YtdfconiahfdhbaaDoorKfn
import Derived.Test.YtdfconiahfdhbaaDoorWfr
namespace Go.Proofs.YtdfconiahfdhbaaDoor
open Go.RowKit
attribute [local go_sem ↓] Go.wp_at_zero Go.wp_at_succ

theorem idx_of_own {w : World} {base e n : Nat} {v : Value} {g : List Nat} (h : w.ownsRow base e 1 v n (idxV g)) : ∃ A cap, v = .slice A g.length cap ∧ ∀ (j x : Nat), g[j]? = some x → ∃ ad, A = some ad ∧ (ad.add j).block < w.heap.size ∧ w.cell? (ad.add j) = some (.int .i64 (x : Int)) := by
  have hn : g.length = n := by have := h.1; unfold idxV at this; rw [List.length_map] at this; omega
  have H := h
  obtain ⟨hl, ⟨rfl, hx⟩ | ⟨q, cap, cur, rfl, hg, hh, h1, h2, h3, h4⟩⟩ := h
  · have hn0 : g = [] := List.eq_nil_of_length_eq_zero (hn.trans hx)
    subst hn0
    exact ⟨none, 0, rfl, fun j x hj => by simp at hj⟩
  · have hlt : q < w.heap.size := (Array.getElem?_eq_some_iff.1 hh).1
    refine ⟨_, cap, by rw [hn], fun j x hj => ⟨⟨q, 0, none⟩, rfl, by unfold Addr.add; split <;> exact hlt, ?_⟩⟩
    exact H.cells (g := q) rfl _ _ (by unfold idxV; rw [List.getElem?_map, hj]; rfl)
theorem kind_c (A : Option Addr) (len cap : Nat) (k : Int) (w : World) : Calls Tryd.prog 18 #[.slice A len cap, .int .i64 k] w fun e w' => e = .returned (.func (.func 40) #[] #[.pointer (some ⟨w.heap.size, 0, none⟩), .pointer (some ⟨w.heap.size + 1, 0, none⟩)]) ∧ w' = (w.alloc (.cells #[.slice A len cap] 22)).alloc (.cells #[.int .i64 k] 3) := by
  go_enter Tryd.func18, Tryd.ntmps18
  go_wp2_with fail
  go_ret
  exact ⟨by simp, rfl⟩
set_option maxRecDepth 100000 in
set_option maxHeartbeats 4000000 in
theorem traceKinds_w (l : List Ev) (hlm : (l.length : Int) ≤ 9223372036854775807) (k : Int) (c : Int) (hc : 0 ≤ c ∧ c ≤ 255) (A : Option Addr) (cap : Nat) (w : World) (hr : Rdy w) (C : Evs w A l) : Calls Tryd.prog 6 #[.slice A l.length cap, .int .i64 k, .int .u8 c] w fun e w' => e = .returned (.bool true) ∧ Below w.heap.size w w' := by
  have HC := Lib.hid C
  have hb0 := (ba w (.cells #[.slice A l.length cap] 22)).trans ((ba (w.alloc (.cells #[.slice A l.length cap] 22)) (.cells #[.int .u8 c] 5)).mono (by simp))
  have HAW := Lib.hid (hr.next hb0)
  have HB0 := Lib.hid hb0
  clear C hb0 hr
  go_enter Tryd.func6, Tryd.ntmps6
  go_wp2_with fail
  refine (awake_c _ HAW.out).mono ?_
  rintro e w1 ⟨rfl, hb1⟩
  have HB1 := Lib.hid (bt HB0.out hb1)
  obtain ⟨hc1, hf1⟩ := bcell hb1
  have hz1 : w.heap.size + 2 ≤ w1.heap.size := by have := hb1.size; simp at this; omega
  have a0 : w1.cell? ⟨w.heap.size, 0, none⟩ = some (.slice A l.length cap) := by
    rw [hc1 _ _ (by simp only [World.size_alloc]; omega)]
    go_simp
  have a1 : w1.cell? ⟨w.heap.size + 1, 0, none⟩ = some (.int .u8 c) := by
    rw [hc1 _ _ (by simp only [World.size_alloc]; omega)]
    go_simp
  have hs0 : w.heap.size < w1.heap.size := by omega
  have hs1 : w.heap.size + 1 < w1.heap.size := by omega
  clear hb1 hc1 hf1 HB0 HAW
  by_cases h80 : 80 < l.length
  · have h80I : (80 : Int) < (l.length : Int) := by omega
    go_wp2_with fail
    go_ret
    exact ⟨rfl, HB1.out⟩
  · have h80I : ¬ (80 : Int) < (l.length : Int) := by omega
    have hl : l.length ≤ 80 := by omega
    go_wp2_with fail
    refine (kind_c A l.length cap k _).mono ?_
    rintro e w2 ⟨rfl, rfl⟩
    have hA : KA w (w1.heap.size + 1) w.heap.size w1.heap.size (w.heap.size + 1) (w1.heap.size + 3) (w1.heap.size + 4) := by constructor <;> omega
    have hK : KS w (w1.heap.size + 1) w.heap.size w1.heap.size (w.heap.size + 1) (w1.heap.size + 3) (w1.heap.size + 4) A cap l k c true (.slice none 0 0) [] ((((w1.alloc (.cells #[.slice none 0 0] 36)).alloc (.cells #[.bool true] 4)).alloc (.cells #[.slice A l.length cap] 22)).alloc (.cells #[.int .i64 k] 3)) := by
      have hbx := bt (bt (bt (ba w1 (.cells #[.slice none 0 0] 36)) (ba _ (.cells #[.bool true] 4))) (ba _ (.cells #[.slice A l.length cap] 22))) (ba _ (.cells #[.int .i64 k] 3))
      refine ⟨bt HB1.out hbx, by simp, HC.out, ?_, ?_, ((bcell hbx).1 _ _ hs0).trans a0, ?_, ?_, ((bcell hbx).1 _ _ hs1).trans a1, ?_, World.ownsRow_nil _ _ _ _⟩
      all_goals go_simp
    have h2 : ((((w1.alloc (.cells #[.slice none 0 0] 36)).alloc (.cells #[.bool true] 4)).alloc (.cells #[.slice A l.length cap] 22)).alloc (.cells #[.int .i64 k] 3)).cell? ⟨w1.heap.size + 2, 0, none⟩ = some (.slice A l.length cap) := by go_simp
    have HK := Lib.hid hK
    have H2 := Lib.hid h2
    clear hK h2
    go_wp2_with fail
    refine (kfn_c w (w1.heap.size + 1) w.heap.size w1.heap.size (w.heap.size + 1) (w1.heap.size + 3) (w1.heap.size + 4) hA A cap l hl k c hc (w1.heap.size + 2) (.slice none 0 0) _ HK.out H2.out).mono ?_
    rintro e w3 ⟨rfl, v, K3⟩
    have HK3 := Lib.hid K3
    have g0 := K3.ev
    have gz := K3.sz
    clear K3 HK H2 a0 a1
    have hs2 : w.heap.size < w3.heap.size := by omega
    go_wp2_with fail
    go_loopw [9, 24] (fun s9 s24 wr => ∃ j : Nat, j ≤ l.length ∧ s24 = .int .i64 j ∧ s9 = .int .i64 (selG l k c j).length ∧ KS w (w1.heap.size + 1) w.heap.size w1.heap.size (w.heap.size + 1) (w1.heap.size + 3) (w1.heap.size + 4) A cap l k c true v (selG l k c l.length) wr) (fun _ s24 _ => l.length - (intOf s24).toNat)
    case atStart => exact ⟨0, by omega, rfl, rfl, HK3.out⟩
    case round =>
      obtain ⟨j, hj, rfl, rfl, K⟩ := hrel
      by_cases hlt : j < l.length
      · have HL := Lib.hid (List.getElem?_eq_getElem hlt)
        obtain ⟨ad, rfl, EA⟩ := (HC.out.next K.below).at_ j _ HL.out
        generalize l[j] = e at *
        have hsl := selG_len l k c j
        have hslI : ((selG l k c j).length : Int) ≤ 80 := by omega
        have HKN := Lib.hid (K.next hA (ba wr (.cells #[.int .i64 e.kind, .int .i64 e.time, .int .i64 e.task, .int .i64 e.n, .int .i16 e.value, .int .i64 e.port] 26)))
        obtain ⟨AG, cg, rfl, hg⟩ := idx_of_own K.own
        have kg := K.got
        have kl := K.lim
        have kz := K.sz
        have hz3 : w1.heap.size < wr.heap.size := by omega
        have hz4 : w.heap.size + 1 < wr.heap.size := by omega
        obtain ⟨_, c0, c1, c2, c3, c4, c5⟩ := EA
        have hcw : IntKind.i64.wrap c = c := IntWalk.i64_in _ (by omega)
        clear K
        by_cases hk : e.kind = k
        · by_cases hn : ((selG l k c j).length : Int) ≤ c
          · have HS := Lib.hid (selG_yes HL.out hk hn)
            obtain ⟨r, hr⟩ := selG_pre l k c (j + 1) (l.length - (j + 1))
            rw [show j + 1 + (l.length - (j + 1)) = l.length from by omega, HS.out] at hr
            have hat : (selG l k c l.length)[(selG l k c j).length]? = some j := by rw [hr]; simp
            have hlt2 := (List.getElem?_eq_some_iff.1 hat).1
            have hltI : ((selG l k c j).length : Int) < ((selG l k c l.length).length : Int) := by omega
            obtain ⟨ag, rfl, hagl, hag⟩ := hg _ _ hat
            have hk1 : (e.kind == k) = true := by simpa using hk
            have hk2 : (e.kind != k) = false := by simpa using hk
            have hN := Lib.hid hn
            have hle : ((selG l k c j).length : Int) ≤ c := hn
            clear hk hg hr hat hn
            go_wp2_with fail
            go_roundw
            case rel => exact ⟨j + 1, by omega, by go_num, by rw [HS.out, List.length_append, List.length_singleton]; go_num, HKN.out⟩
            case measure => simp [intOf]; omega
          · have HS := Lib.hid (selG_full (l := l) (k := k) (c := c) (j := j) (by omega))
            have hgt : c < ((selG l k c j).length : Int) := by omega
            have hk1 : (e.kind == k) = true := by simpa using hk
            have hk2 : (e.kind != k) = false := by simpa using hk
            clear hk hg hn
            go_wp2_with fail
            go_roundw
            case rel => exact ⟨j + 1, by omega, by go_num, by rw [HS.out], HKN.out⟩
            case measure => simp [intOf]; omega
        · have HS := Lib.hid (selG_no (k := k) (c := c) HL.out hk)
          have hk1 : (e.kind == k) = false := by simpa using hk
          have hk2 : (e.kind != k) = true := by simpa using hk
          clear hk hg
          go_wp2_with fail
          go_roundw
          case rel => exact ⟨j + 1, by omega, by go_num, by rw [HS.out], HKN.out⟩
          case measure => simp [intOf]; omega
      · obtain rfl : j = l.length := by omega
        obtain ⟨AG, cg, rfl, hg⟩ := idx_of_own K.own
        have kg := K.got
        have ko := K.ok
        have kz := K.sz
        have hz3 : w1.heap.size < wr.heap.size := by omega
        have hz5 : w1.heap.size + 1 < wr.heap.size := by omega
        have HK := Lib.hid K
        clear K hg
        go_wp2_with fail
        go_ret
        exact ⟨ret_bool (by simp), HK.out.below⟩
theorem traceKinds_f (l : List Ev) (k c : Int) (hlm : (l.length : Int) ≤ 9223372036854775807) (_hb : InL l) (hc0 : 0 ≤ c) (hc1 : c ≤ 255) (w : World) (hr : RdyF w) (A : Option Addr) (cap : Nat) (C : Evs w A l) : Calls Tryd.prog 6 #[.slice A l.length cap, .int .i64 k, .int .u8 c] w fun e w' => e = .returned (.bool true) ∧ Below w.heap.size w w' := traceKinds_w l hlm k c ⟨hc0, hc1⟩ A cap w hr.rdy C
end Go.Proofs.YtdfconiahfdhbaaDoor
