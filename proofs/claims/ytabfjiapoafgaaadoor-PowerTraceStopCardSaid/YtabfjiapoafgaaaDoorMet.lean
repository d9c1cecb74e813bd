/-
  The meter in memory: begin, Start, Spend, Next and what reads it.
-/
import Derived.Test.YtabfjiapoafgaaaDoorVal
import Derived.Test.YtabfjiapoafgaaaDoorMtp
namespace Go.Proofs.YtabfjiapoafgaaaDoor
open Go.RowKit
set_option linter.unusedVariables false
attribute [local go_sem ↓] Go.wp_at_zero Go.wp_at_succ

/-- one block has been written to; the rest is new -/
abbrev On (M : Nat) (w w' : World) : Prop := w.grownBy w' (some M)
theorem On.trans {M : Nat} {a b c : World} (h : On M a b) (k : On M b c) : On M a c :=
  ⟨k.os.trans h.os, k.tape.trans h.tape, k.output.trans h.output, Nat.le_trans h.size k.size, fun j hj hn => (k.block j (Nat.lt_of_lt_of_le hj h.size) hn).trans (h.block j hj hn)⟩
theorem On.of_below {M : Nat} {w w' : World} (h : Below w.heap.size w w') : On M w w' := ⟨h.os, h.tape, h.output, h.size, fun j hj _ => h.block j hj⟩
theorem On.set {M : Nat} {w w' : World} (h : On M w w') (i : Nat) (v : Value) : On M w (w'.setCell ⟨M, i, none⟩ v) :=
  ⟨((Below.refl 0 w').setCell (p := ⟨M, i, none⟩) (Nat.zero_le _) v).os.trans h.os, ((Below.refl 0 w').setCell (p := ⟨M, i, none⟩) (Nat.zero_le _) v).tape.trans h.tape, ((Below.refl 0 w').setCell (p := ⟨M, i, none⟩) (Nat.zero_le _) v).output.trans h.output, by simpa using h.size, fun j hj hn => (Below.heap_setCell w' _ v j (fun e => hn (by rw [e]))).trans (h.block j hj hn)⟩
theorem add_zero (a : Addr) : a.add 0 = a := rfl
theorem On.refl (M : Nat) (w : World) : On M w w := ⟨rfl, rfl, rfl, Nat.le_refl _, fun _ _ _ => rfl⟩
theorem On.below {B M : Nat} {w0 w w' : World} (k : On M w w') (h : Below B w0 w) (hB : B ≤ w.heap.size) (hM : B ≤ M) : Below B w0 w' := h.grown k hB (fun j e => by cases e; exact hM)
theorem Prs.on {M : Nat} {w w' : World} {A : Option Addr} {l : List (Int × Int)} (h : Prs w A l) (k : On M w w') (hne : ∀ ad, A = some ad → ad.block ≠ M) : Prs w' A l :=
  ⟨fun j x hj => by
    obtain ⟨ad, e, hlt, h1, h2⟩ := h.at_ j x hj
    have hn := hne ad e
    exact ⟨ad, e, Nat.lt_of_lt_of_le hlt k.size, k.cell h1 (by rw [block_of_add]; intro q; exact hn (Option.some.inj q)), k.cell h2 (by rw [block_of_add]; intro q; exact hn (Option.some.inj q))⟩⟩
/-- a meter in a block of its own -/
structure MX (M : Nat) (l : List (Int × Int)) (s : MS) (W : World) : Prop where
  lt : M < W.heap.size
  rest : ∃ A cap, W.cell? ⟨M, 0, none⟩ = some (.slice A (l.length - s.k) cap) ∧ l.length - s.k ≤ cap ∧ Prs W A (l.drop s.k) ∧ ∀ ad, A = some ad → ad.block < M
  left : W.cell? ⟨M, 1, none⟩ = some (.int .i64 s.left)
  failed : W.cell? ⟨M, 2, none⟩ = some (.bool s.dark)
  over : W.cell? ⟨M, 3, none⟩ = some (.int .i64 s.cnt)
  fr : ∀ i, W.frozen? ⟨M, i, none⟩ = false
theorem MX.next {M : Nat} {l : List (Int × Int)} {s : MS} {W W' : World} (h : MX M l s W) (hb : Below W.heap.size W W') : MX M l s W' := by
  obtain ⟨hc, hf⟩ := bcell hb
  obtain ⟨A, cap, h1, h2, h3, h4⟩ := h.rest
  have hs := h.lt
  exact ⟨Nat.lt_of_lt_of_le hs hb.size, ⟨A, cap, (hc _ _ hs).trans h1, h2, h3.next hb, h4⟩, (hc _ _ hs).trans h.left, (hc _ _ hs).trans h.failed, (hc _ _ hs).trans h.over, fun i => (hf _ _ hs).trans (h.fr i)⟩
theorem MX.on {M Y : Nat} {l : List (Int × Int)} {s : MS} {W W' : World} (h : MX M l s W) (k : On Y W W') (hne : M ≠ Y) (hr : ∀ A len cap, W.cell? ⟨M, 0, none⟩ = some (.slice A len cap) → ∀ ad, A = some ad → ad.block ≠ Y) : MX M l s W' := by
  have hs := h.lt
  have hb : W'.heap[M]? = W.heap[M]? := k.block M hs (fun q => hne (Option.some.inj q))
  have hc : ∀ i, W'.cell? ⟨M, i, none⟩ = W.cell? ⟨M, i, none⟩ := fun i => World.cell?_of_block hb
  have hf : ∀ i, W'.frozen? ⟨M, i, none⟩ = W.frozen? ⟨M, i, none⟩ := fun i => World.frozen?_of_block hb
  obtain ⟨A, cap, h1, h2, h3, h4⟩ := h.rest
  exact ⟨Nat.lt_of_lt_of_le hs k.size, ⟨A, cap, (hc _).trans h1, h2, h3.on k (hr _ _ _ h1), h4⟩, (hc _).trans h.left, (hc _).trans h.failed, (hc _).trans h.over, fun i => (hf i).trans (h.fr i)⟩
theorem MX.far {M Y : Nat} {l : List (Int × Int)} {s : MS} {W W' : World} (h : MX M l s W) (k : On Y W W') (hY : M < Y) : MX M l s W' := by
  obtain ⟨A, cap, h1, h2, h3, h4⟩ := h.rest
  refine h.on k (by omega) (fun A' len cap' hc ad e => ?_)
  rw [h1] at hc
  cases hc
  have := h4 ad e
  omega
theorem fcell (W : World) {M i j : Nat} (h : i ≠ j) (v : Value) : (W.setCell ⟨M, i, none⟩ v).cell? ⟨M, j, none⟩ = W.cell? ⟨M, j, none⟩ := World.cell?_setCell_other W _ _ v (fun e => h (by have := congrArg Addr.off e; simpa using this))
theorem Prs.setFar {M i : Nat} {w : World} {A : Option Addr} {l : List (Int × Int)} (h : Prs w A l) (v : Value) (hne : ∀ ad, A = some ad → ad.block ≠ M) : Prs (w.setCell ⟨M, i, none⟩ v) A l := h.on ((On.refl M w).set i v) hne
theorem MX.setLeft {M : Nat} {l : List (Int × Int)} {s : MS} {W : World} (h : MX M l s W) (n : Int) : MX M l ⟨s.k, n, s.dark, s.cnt⟩ (W.setCell ⟨M, 1, none⟩ (.int .i64 n)) := by
  obtain ⟨A, cap, h1, h2, h3, h4⟩ := h.rest
  exact ⟨by simpa using h.lt, ⟨A, cap, (fcell W (by decide) _).trans h1, h2, h3.setFar _ (fun ad e => Nat.ne_of_lt (h4 ad e)), h4⟩, World.cell?_setCell_same _ _ _ h.left, (fcell W (by decide) _).trans h.failed, (fcell W (by decide) _).trans h.over, fun i => by simpa using h.fr i⟩
theorem MX.setFailed {M : Nat} {l : List (Int × Int)} {s : MS} {W : World} (h : MX M l s W) (b : Bool) : MX M l ⟨s.k, s.left, b, s.cnt⟩ (W.setCell ⟨M, 2, none⟩ (.bool b)) := by
  obtain ⟨A, cap, h1, h2, h3, h4⟩ := h.rest
  exact ⟨by simpa using h.lt, ⟨A, cap, (fcell W (by decide) _).trans h1, h2, h3.setFar _ (fun ad e => Nat.ne_of_lt (h4 ad e)), h4⟩, (fcell W (by decide) _).trans h.left, World.cell?_setCell_same _ _ _ h.failed, (fcell W (by decide) _).trans h.over, fun i => by simpa using h.fr i⟩
theorem MX.setOver {M : Nat} {l : List (Int × Int)} {s : MS} {W : World} (h : MX M l s W) (n : Nat) : MX M l ⟨s.k, s.left, s.dark, n⟩ (W.setCell ⟨M, 3, none⟩ (.int .i64 n)) := by
  obtain ⟨A, cap, h1, h2, h3, h4⟩ := h.rest
  exact ⟨by simpa using h.lt, ⟨A, cap, (fcell W (by decide) _).trans h1, h2, h3.setFar _ (fun ad e => Nat.ne_of_lt (h4 ad e)), h4⟩, (fcell W (by decide) _).trans h.left, (fcell W (by decide) _).trans h.failed, World.cell?_setCell_same _ _ _ h.over, fun i => by simpa using h.fr i⟩
theorem MX.new {w : World} {l : List (Int × Int)} {A : Option Addr} {cap : Nat} (C : Prs w A l) (hc : l.length ≤ cap) (hne : ∀ ad, A = some ad → ad.block < w.heap.size) : MX w.heap.size l ⟨0, 0, false, 0⟩ (w.alloc (.cells #[.slice A l.length cap, .int .i64 0, .bool false, .int .i64 0] 82)) :=
  ⟨by simp, ⟨A, cap, (World.cell?_alloc_at _ _ _ _ rfl).trans rfl, hc, C.next (ba w _), hne⟩, (World.cell?_alloc_at _ _ _ _ rfl).trans rfl, (World.cell?_alloc_at _ _ _ _ rfl).trans rfl, (World.cell?_alloc_at _ _ _ _ rfl).trans rfl, fun i => World.frozen?_alloc_at _ _ _ _ rfl⟩
set_option maxRecDepth 100000 in
theorem begin_c (M : Nat) (l : List (Int × Int)) (s : MS) (w : World) (K : MX M l s w) : Calls Tryd.prog 46 #[.pointer (some ⟨M, 0, none⟩)] w fun e w' => e = .returned (.tuple #[]) ∧ MX M l ⟨s.k, energyAt l s.k, s.dark, s.cnt⟩ w' ∧ On M w w' := by
  have HK := Lib.hid K
  obtain ⟨A, cap, c0, hcap, C, hne⟩ := K.rest
  have c1 := K.left
  have hs := K.lt
  have f1 := K.fr 1
  clear K
  by_cases hk : s.k < l.length
  · have HE := Lib.hid (energyAt_lt hk)
    obtain ⟨ad, rfl, had, d0, -⟩ := C.at_ 0 l[s.k] (by simp [hk])
    have hnb := Nat.ne_of_lt (hne ad rfl)
    have d1 : (w.setCell ⟨M, 1, none⟩ (.int .i64 (-1))).cell? ad = some (.int .i64 l[s.k].1) := by
      rw [World.cell?_setCell_other]
      · simpa [add_zero] using d0
      · intro e; exact hnb (by rw [← e])
    have HC := Lib.hid C
    have hl0 : (0 : Int) < ((l.length - s.k : Nat) : Int) := by omega
    have hl1 : 0 < l.length - s.k := by omega
    clear C hne d0
    generalize l[s.k] = x at *
    generalize hL : l.length - s.k = L at *
    go_enter Tryd.func46, Tryd.ntmps46
    go_wp2_with fail
    go_end0
    rw [HE.out]
    exact ⟨rfl, (HK.out.setLeft (-1)).setLeft x.1, ((On.refl M w).set 1 _).set 1 _⟩
  · have HE := Lib.hid (energyAt_ge (l := l) (k := s.k) (by omega))
    have hl0 : ¬ (0 : Int) < ((l.length - s.k : Nat) : Int) := by omega
    have hl1 : l.length - s.k = 0 := by omega
    rw [hl1] at c0 hl0
    clear C hne hk hcap
    go_enter Tryd.func46, Tryd.ntmps46
    go_wp2_with fail
    go_end0
    rw [HE.out]
    exact ⟨rfl, HK.out.setLeft (-1), (On.refl M w).set 1 _⟩
/-- a list of periods handed back in memory of the call's own -/
def GivesO (l : List (Int × Int)) (w : World) (e : Ending) (w' : World) : Prop := ∃ v, e = .returned v ∧ w'.ownsRow w.heap.size 38 2 v l.length (flat l) ∧ Below w.heap.size w w'
set_option maxRecDepth 100000 in
theorem clone_o (l : List (Int × Int)) (hl : l.length ≤ 8796093022208) (A : Option Addr) (cap : Nat) (w : World) (C : Prs w A l) : Calls Tryd.prog 45 #[.slice A l.length cap] w (GivesO l w) := by
  obtain ⟨i38, hi, hz0, hz1, hz2⟩ := info_parts info38
  have hnil := fun (W : World) => Lib.run_eql_slice_nil (P := Tryd.prog) W 22 38 A l.length cap 0 0 Tryd.underlying22
  cases A with
  | none =>
    have e := C.none_nil
    subst e
    have hnil2 := fun (W : World) => Lib.run_eql_slice_nil (P := Tryd.prog) W 22 38 none 0 cap 0 0 Tryd.underlying22
    clear hnil
    go_enter Tryd.func45, Tryd.ntmps45
    go_wp2_with fail
    go_ret
    exact ⟨_, rfl, World.ownsRow_nil _ _ _ _, Below.refl _ _⟩
  | some ad =>
    have hnews := (C.next (ba w (.cells #[] 38))).cells
    have HN := Lib.hid hnews
    have HW := Lib.hid (own_empty w 38 2)
    clear hnews C
    go_enter Tryd.func45, Tryd.ntmps45
    go_wp2_with (at_builtin; refine wpList_append_own _ rfl (.tmp 5) (.tmp 6) 22 rfl w.heap.size 38 i38 (.agg #[.int .i64 0, .int .i64 0]) 2 16 Tryd.underlying22 hi hz0 hz1 hz2 rfl (by decide) _ 0 [] rfl HW.out ad l.length cap (flat l) rfl (flat_len l) HN.out (flat_one l) (by unfold maxLen; omega) (by omega) (by simp) ?_; intro v1 w7 hown1 hgrow1 hnil1)
    go_ret
    have ho : w7.ownsRow w.heap.size 38 2 v1 l.length (flat l) := by simpa using hown1
    exact ⟨v1, rfl, ho, (ba w _).grown hgrow1 (by simp) (fun j hj => by have h2 : some w.heap.size = some j := hj; injection h2 with h2; omega)⟩
set_option maxRecDepth 100000 in
theorem copied_o (l : List (Int × Int)) (hl : l.length ≤ 8796093022208) (A : Option Addr) (cap : Nat) (w : World) (C : Prs w A l) : Calls Tryd.prog 13 #[.slice A l.length cap] w (GivesO l w) := by
  obtain ⟨i38, hi, hz0, hz1, hz2⟩ := info_parts info38
  cases A with
  | none =>
    have e := C.none_nil
    subst e
    have HW := Lib.hid (own_empty w 38 2)
    go_enter Tryd.func13, Tryd.ntmps13
    go_wp2_with fail
    go_ret
    exact ⟨_, rfl, HW.out, ba w _⟩
  | some ad =>
    have hnews := (C.next (ba w (.cells #[] 38))).cells
    have HN := Lib.hid hnews
    have HW := Lib.hid (own_empty w 38 2)
    clear hnews C
    go_enter Tryd.func13, Tryd.ntmps13
    go_wp2_with (at_builtin; refine wpList_append_own _ rfl (.tmp 3) (.tmp 4) 22 rfl w.heap.size 38 i38 (.agg #[.int .i64 0, .int .i64 0]) 2 16 Tryd.underlying22 hi hz0 hz1 hz2 rfl (by decide) _ 0 [] rfl HW.out ad l.length cap (flat l) rfl (flat_len l) HN.out (flat_one l) (by unfold maxLen; omega) (by omega) (by simp) ?_; intro v1 w7 hown1 hgrow1 hnil1)
    go_ret
    have ho : w7.ownsRow w.heap.size 38 2 v1 l.length (flat l) := by simpa using hown1
    exact ⟨v1, rfl, ho, (ba w _).grown hgrow1 (by simp) (fun j hj => by have h2 : some w.heap.size = some j := hj; injection h2 with h2; omega)⟩
/-- what Start answers -/
def StartP (l : List (Int × Int)) (w : World) (e : Ending) (w' : World) : Prop := (if validL l = true then ∃ M, e = .returned (.tuple #[.pointer (some ⟨M, 0, none⟩), .int .i64 0]) ∧ w.heap.size ≤ M ∧ MX M l (startM l) w' else e = .returned (.tuple #[.pointer none, .int .i64 1])) ∧ Below w.heap.size w w'
set_option maxRecDepth 100000 in
set_option maxHeartbeats 1000000 in
theorem start_c (l : List (Int × Int)) (hl : l.length ≤ 8796093022208) (A : Option Addr) (cap : Nat) (w : World) (C : Prs w A l) : Calls Tryd.prog 20 #[.slice A l.length cap] w (StartP l w) := by
  have HC := Lib.hid C
  clear C
  go_enter Tryd.func20, Tryd.ntmps20
  go_wp2_with fail
  refine (validS_c l (by omega) A cap _ HC.out).mono ?_
  rintro e w1 ⟨rfl, hb1⟩
  by_cases hv : validL l = true
  · have HV := Lib.hid hv
    rw [hv]
    clear hv
    have HC1 := Lib.hid (HC.out.next hb1)
    have HB1 := Lib.hid hb1
    clear hb1
    go_wp2_with fail
    refine (clone_o l hl A cap _ HC1.out).mono ?_
    rintro e w2 ⟨v, rfl, ho, hb2⟩
    obtain ⟨A2, cap2, rfl, hc2, C2⟩ := Prs.of_own ho
    have HB2 := Lib.hid (bt HB1.out hb2)
    have hne : ∀ ad, A2 = some ad → ad.block < w2.heap.size := fun ad e => by
      cases q : (Value.slice A2 l.length cap2).ownBlock with
      | none => rw [e] at q; simp [Value.ownBlock] at q
      | some g => have := (ho.lt g q).2; rw [e] at q; simp [Value.ownBlock] at q; omega
    have HNE := Lib.hid hne
    have HC2 := Lib.hid C2
    clear ho hb2 hne C2
    go_wp2_with fail
    have HM := Lib.hid (MX.new HC2.out hc2 HNE.out)
    refine (begin_c _ l _ _ HM.out).mono ?_
    rintro e w3 ⟨rfl, K3, o3⟩
    have HK := Lib.hid K3
    have HB3 := Lib.hid (o3.below (HB2.out.alloc HB2.out.size _) (by simpa using Nat.le_trans HB2.out.size (Nat.le_succ _)) HB2.out.size)
    clear K3 o3
    go_wp2_with fail
    go_ret2
    refine ⟨?_, HB3.out⟩
    rw [if_pos HV.out]
    exact ⟨_, rfl, HB2.out.size, HK.out⟩
  · have hv' : validL l = false := by simpa using hv
    have HV := Lib.hid hv
    rw [hv']
    clear hv hv'
    go_wp2_with fail
    go_ret2
    refine ⟨?_, hb1⟩
    rw [if_neg HV.out]
    rfl
set_option maxRecDepth 100000 in
set_option maxHeartbeats 1000000 in
theorem spend_p (M : Nat) (l : List (Int × Int)) (hl : l.length ≤ 8796093022208) (s : MS) (ok : MOk l s) (n : Int) (hn0 : 0 ≤ n) (w : World) (K : MX M l s w) : Calls Tryd.prog 21 #[.pointer (some ⟨M, 0, none⟩), .int .i64 n] w fun e w' => e = .returned (.bool (spendM l s n).2) ∧ MX M l (spendM l s n).1 w' ∧ On M w w' := by
  have HK := Lib.hid K
  obtain ⟨A, cap, c0, hcap, -, -⟩ := K.rest
  have c1 := K.left
  have c2 := K.failed
  have c3 := K.over
  have hs := K.lt
  have f1 := K.fr 1
  have f2 := K.fr 2
  have f3 := K.fr 3
  clear K
  have hmx : max n 0 = n := by omega
  cases hd : s.dark with
  | true =>
    have HS := Lib.hid (show spendM l s n = (s, false) from by unfold spendM; rw [if_pos hd])
    rw [hd] at c2
    clear hd ok hmx
    go_enter Tryd.func21, Tryd.ntmps21
    go_wp2_with fail
    all_goals
      go_ret
      rw [HS.out]
      exact ⟨rfl, HK.out, On.refl M w⟩
  | false =>
    have hlf := ok.lf hd
    have hct := ok.cnt
    rw [hd] at c2
    rw [if_neg (by rw [hd]; decide)] at hct
    by_cases hk : l.length ≤ s.k
    · have HS := Lib.hid (show spendM l s n = (s, true) from by unfold spendM; rw [if_neg (by rw [hd]; decide), if_pos hk])
      rw [show l.length - s.k = 0 from by omega] at c0
      clear hd ok hk hcap hmx hlf hct
      go_enter Tryd.func21, Tryd.ntmps21
      go_wp2_with fail
      all_goals
        go_ret
        rw [HS.out]
        exact ⟨rfl, HK.out, On.refl M w⟩
    · have hl0 : ((l.length - s.k : Nat) : Int) ≠ 0 := by omega
      have hl1 : ((((l.length - s.k : Nat) : Int)) == 0) = false := by simpa using hl0
      have hl2 : ((l.length - s.k : Nat) == 0) = false := by simp; omega
      have hlft := hlf.1 (by omega)
      by_cases hn : max n 0 ≤ s.left
      · have HS := Lib.hid (show spendM l s n = (⟨s.k, s.left - n, false, s.cnt⟩, true) from by unfold spendM; rw [if_neg (by rw [hd]; decide), if_neg hk, if_pos hn, hmx])
        have HX := Lib.hid (HK.out.setLeft (s.left - n))
        rw [hd] at HX
        rw [hmx] at hn
        generalize l.length - s.k = L at *
        generalize s.left = sl at *
        clear hd ok hk hlf hmx
        go_enter Tryd.func21, Tryd.ntmps21
        go_wp2_with fail
        all_goals
          go_ret
          rw [HS.out]
          exact ⟨rfl, HX.out, (On.refl M w).set 1 _⟩
      · have HS := Lib.hid (show spendM l s n = (⟨s.k, 0, true, s.cnt + 1⟩, false) from by unfold spendM; rw [if_neg (by rw [hd]; decide), if_neg hk, if_neg hn])
        have HX := Lib.hid (((HK.out.setFailed true).setLeft 0).setOver (s.cnt + 1))
        rw [hmx] at hn
        generalize l.length - s.k = L at *
        have hsk : (s.cnt : Int) ≤ 8796093022208 := by have := ok.le; omega
        generalize s.left = sl at *
        generalize hcn : s.cnt = c at *
        clear hd ok hk hlf hmx hct
        go_enter Tryd.func21, Tryd.ntmps21
        go_wp2_with fail
        all_goals
          go_ret
          rw [HS.out]
          exact ⟨rfl, HX.out, (((On.refl M w).set 2 _).set 1 _).set 3 _⟩
set_option maxRecDepth 100000 in
set_option maxHeartbeats 1000000 in
theorem spend_n (M : Nat) (l : List (Int × Int)) (hl : l.length ≤ 8796093022208) (s : MS) (ok : MOk l s) (n : Int) (hn0 : n < 0) (w : World) (K : MX M l s w) : Calls Tryd.prog 21 #[.pointer (some ⟨M, 0, none⟩), .int .i64 n] w fun e w' => e = .returned (.bool (spendM l s n).2) ∧ MX M l (spendM l s n).1 w' ∧ On M w w' := by
  have HK := Lib.hid K
  obtain ⟨A, cap, c0, hcap, -, -⟩ := K.rest
  have c1 := K.left
  have c2 := K.failed
  have c3 := K.over
  have hs := K.lt
  have f1 := K.fr 1
  have f2 := K.fr 2
  have f3 := K.fr 3
  clear K
  have hmx : max n 0 = 0 := by omega
  cases hd : s.dark with
  | true =>
    have HS := Lib.hid (show spendM l s n = (s, false) from by unfold spendM; rw [if_pos hd])
    rw [hd] at c2
    clear hd ok hmx
    go_enter Tryd.func21, Tryd.ntmps21
    go_wp2_with fail
    all_goals
      go_ret
      rw [HS.out]
      exact ⟨rfl, HK.out, On.refl M w⟩
  | false =>
    have hlf := ok.lf hd
    have hct := ok.cnt
    rw [hd] at c2
    rw [if_neg (by rw [hd]; decide)] at hct
    by_cases hk : l.length ≤ s.k
    · have HS := Lib.hid (show spendM l s n = (s, true) from by unfold spendM; rw [if_neg (by rw [hd]; decide), if_pos hk])
      rw [show l.length - s.k = 0 from by omega] at c0
      clear hd ok hk hcap hmx hlf hct
      go_enter Tryd.func21, Tryd.ntmps21
      go_wp2_with fail
      all_goals
        go_ret
        rw [HS.out]
        exact ⟨rfl, HK.out, On.refl M w⟩
    · have hl0 : ((l.length - s.k : Nat) : Int) ≠ 0 := by omega
      have hl1 : ((((l.length - s.k : Nat) : Int)) == 0) = false := by simpa using hl0
      have hl2 : ((l.length - s.k : Nat) == 0) = false := by simp; omega
      have hlft := hlf.1 (by omega)
      by_cases hn : max n 0 ≤ s.left
      · have HS := Lib.hid (show spendM l s n = (⟨s.k, s.left - 0, false, s.cnt⟩, true) from by unfold spendM; rw [if_neg (by rw [hd]; decide), if_neg hk, if_pos hn, hmx])
        have HX := Lib.hid (HK.out.setLeft (s.left - 0))
        rw [hd] at HX
        rw [hmx] at hn
        generalize l.length - s.k = L at *
        generalize s.left = sl at *
        clear hd ok hk hlf hmx
        go_enter Tryd.func21, Tryd.ntmps21
        go_wp2_with fail
        all_goals
          go_ret
          rw [HS.out]
          exact ⟨rfl, by simpa using HX.out, (On.refl M w).set 1 _⟩
      · rw [hmx] at hn
        exact absurd hlft.1 hn
theorem spend_c (M : Nat) (l : List (Int × Int)) (hl : l.length ≤ 8796093022208) (s : MS) (ok : MOk l s) (n : Int) (w : World) (K : MX M l s w) : Calls Tryd.prog 21 #[.pointer (some ⟨M, 0, none⟩), .int .i64 n] w fun e w' => e = .returned (.bool (spendM l s n).2) ∧ MX M l (spendM l s n).1 w' ∧ On M w w' := by
  by_cases h : n < 0
  · exact spend_n M l hl s ok n h w K
  · exact spend_p M l hl s ok n (by omega) w K
end Go.Proofs.YtabfjiapoafgaaaDoor
