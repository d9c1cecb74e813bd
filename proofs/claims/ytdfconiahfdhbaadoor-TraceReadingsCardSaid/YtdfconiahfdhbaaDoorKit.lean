/-
  Kind's iterator, whatever the loop's body.
-/
import Derived.Test.YtdfconiahfdhbaaDoorSeq
import Derived.Test.YtdfconiahfdhbaaDoorEvs
namespace Go.Proofs.YtdfconiahfdhbaaDoor
open Go.RowKit Go.Shelf
attribute [local go_sem] Oper.semAt_some

set_option maxRecDepth 100000 in
set_option maxHeartbeats 2000000 in
theorem iter40 {n : Nat} (hn : 1 ≤ n) (L KB KK : Nat) (l : List Ev) (hl : l.length ≤ 80) (A : Option Addr) (cap : Nat) (k : Int) (J : Nat → World → Prop) (Lv : World → Prop)
    (hE : ∀ j W, J j W → Evs W A l ∧ W.cell? ⟨KK, 0, none⟩ = some (.int .i64 k) ∧ KK < W.heap.size)
    (hB : ∀ j W W', J j W → Below W.heap.size W W' → J j W')
    (hN : ∀ j e W, l[j]? = some e → ¬ e.kind = k → J j W → J (j + 1) W)
    (hY : ∀ j e W, l[j]? = some e → e.kind = k → J j W →
      YieldAt Fence.wide (n - 1) Tryd.prog L #[.int .i64 (j : Int), .agg #[.int .i64 e.kind, .int .i64 e.time, .int .i64 e.task, .int .i64 e.n, .int .i16 e.value, .int .i64 e.port]] W fun r W' => (r = .returned (.bool true) ∧ J (j + 1) W') ∨ (r = .returned (.bool false) ∧ Lv W'))
    (W : World) (h0 : J 0 W) (h1 : W.cell? ⟨KB, 0, none⟩ = some (.slice A l.length cap)) :
    CallsIn Fence.wide n Tryd.prog 40 #[.func (.yield L) #[] #[], .pointer (some ⟨KB, 0, none⟩), .pointer (some ⟨KK, 0, none⟩)] W fun e W' => (∃ v, e = .returned v) ∧ (J l.length W' ∨ Lv W') := by
  have hlI : (l.length : Int) ≤ 80 := by omega
  refine callsIn_of_wp Tryd.func40 rfl trivial ?_ rfl
  simp only [Tryd.ntmps40, List.size_toArray, List.length_cons, List.length_nil, Nat.reduceAdd, Nat.reduceSub, Array.replicate_succ, Array.replicate_zero, List.push_toArray, List.append_toArray, List.nil_append, List.cons_append]
  have H0 := Lib.hid h0
  have HE := Lib.hid hE
  have HB := Lib.hid hB
  have HN := Lib.hid hN
  have HY := Lib.hid hY
  clear h0 hE hB hN hY
  gi_wp2
  gi_loopw [8] (fun i wr => ∃ j : Nat, j ≤ l.length ∧ i = .int .i64 j ∧ J j wr) (fun i _ => l.length - (intOf i).toNat)
  case atStart => exact ⟨0, by omega, rfl, H0.out⟩
  case round =>
    obtain ⟨j, hj, rfl, hJ⟩ := hrel
    by_cases hlt : j < l.length
    · have HL := Lib.hid (List.getElem?_eq_getElem hlt)
      obtain ⟨hev, hkd, hks⟩ := HE.out j wr hJ
      obtain ⟨ad, rfl, EA⟩ := hev.at_ j _ HL.out
      generalize l[j] = e at *
      have HJ := Lib.hid (HB.out j wr _ hJ (ba wr (.cells #[.int .i64 e.kind, .int .i64 e.time, .int .i64 e.task, .int .i64 e.n, .int .i16 e.value, .int .i64 e.port] 26)))
      obtain ⟨_, a0, a1, a2, a3, a4, a5⟩ := EA
      clear hev hJ
      by_cases hk : e.kind = k
      · obtain ⟨fn, tmps, assign, body, hy, hR⟩ := HY.out j e _ HL.out hk HJ.out
        have hkI : (e.kind == k) = true := by simpa using hk
        clear hk
        gi_wp2
        refine hR.mono ?_
        rintro r W3 (⟨rfl, hJ3⟩ | ⟨rfl, hx3⟩)
        · have HJ3 := Lib.hid hJ3
          clear hJ3 hR hy
          gi_wp2
          go_roundw
          case rel => exact ⟨j + 1, by omega, by go_num, HJ3.out⟩
          case measure => simp [intOf]; omega
        · gi_wp2
          refine bodyPost_ret (results_none rfl _ _ _) rfl ?_
          exact ⟨⟨_, rfl⟩, .inr hx3⟩
      · have HJ2 := Lib.hid (HN.out j e _ HL.out hk HJ.out)
        have hkI : (e.kind == k) = false := by simpa using hk
        clear hk
        gi_wp2
        refine ⟨fun f h => (by cases h), ?_⟩
        gi_wp2
        go_roundw
        case rel => exact ⟨j + 1, by omega, by go_num, HJ2.out⟩
        case measure => simp [intOf]; omega
    · obtain rfl : j = l.length := by omega
      gi_wp2
      go_end0
      exact ⟨⟨_, rfl⟩, .inl hJ⟩
end Go.Proofs.YtdfconiahfdhbaaDoor
