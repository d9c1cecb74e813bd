/-
  The meter in memory: Next and what reads it; the reference's meter.
-/
import Derived.Test.YtabfjiapoafgaaaDoorMet
namespace Go.Proofs.YtabfjiapoafgaaaDoor
open Go.RowKit
set_option linter.unusedVariables false
attribute [local go_sem ↓] Go.wp_at_zero Go.wp_at_succ

theorem failed_c (M : Nat) (l : List (Int × Int)) (s : MS) (w : World) (K : MX M l s w) : Calls Tryd.prog 31 #[.pointer (some ⟨M, 0, none⟩)] w fun e w' => e = .returned (.bool s.dark) ∧ w' = w := by
  have c2 := K.failed
  clear K
  go_enter Tryd.func31, Tryd.ntmps31
  go_wp2_with fail
  go_ret
  exact ⟨rfl, rfl⟩
theorem left_c (M : Nat) (l : List (Int × Int)) (s : MS) (w : World) (K : MX M l s w) : Calls Tryd.prog 32 #[.pointer (some ⟨M, 0, none⟩)] w fun e w' => e = .returned (.int .i64 s.left) ∧ w' = w := by
  have c2 := K.left
  clear K
  go_enter Tryd.func32, Tryd.ntmps32
  go_wp2_with fail
  go_ret
  exact ⟨rfl, rfl⟩
theorem periods_c (M : Nat) (l : List (Int × Int)) (s : MS) (w : World) (K : MX M l s w) : Calls Tryd.prog 23 #[.pointer (some ⟨M, 0, none⟩)] w fun e w' => e = .returned (.int .i64 s.cnt) ∧ w' = w := by
  have c2 := K.over
  clear K
  go_enter Tryd.func23, Tryd.ntmps23
  go_wp2_with fail
  go_ret
  exact ⟨rfl, rfl⟩
theorem add_two (ad : Addr) : (⟨ad.block, ad.off + 2, none⟩ : Addr) = ad.add 2 := rfl
/-- the first period is over -/
theorem MX.setRest {M : Nat} {l : List (Int × Int)} {s : MS} {W : World} (h : MX M l s W) (hk : s.k < l.length) {ad : Addr} {cap L : Nat} (hL : l.length - s.k = L) (c0 : W.cell? ⟨M, 0, none⟩ = some (.slice (some ad) L cap)) : MX M l ⟨s.k + 1, s.left, s.dark, s.cnt⟩ (W.setCell ⟨M, 0, none⟩ (.slice (if cap = 1 then some ad else some ⟨ad.block, ad.off + 2, none⟩) (L - 1) (cap - 1))) := by
  obtain ⟨A, cap', h1, h2, h3, h4⟩ := h.rest
  rw [h1] at c0
  cases c0
  have hb : ∀ a, (if cap = 1 then some ad else some (⟨ad.block, ad.off + 2, none⟩ : Addr)) = some a → a.block < M := by
    intro a e
    split at e
    · cases e; exact h4 ad rfl
    · cases e; exact h4 ad rfl
  refine ⟨by simpa using h.lt, ⟨_, cap - 1, (World.cell?_setCell_same _ _ _ h1).trans (by rw [show l.length - (s.k + 1) = l.length - s.k - 1 from by omega]), by show l.length - (s.k + 1) ≤ cap - 1; omega, Prs.setFar ?_ _ (fun ad e => Nat.ne_of_lt (hb ad e)), hb⟩, (fcell W (by decide) _).trans h.left, (fcell W (by decide) _).trans h.failed, (fcell W (by decide) _).trans h.over, fun i => by simpa using h.fr i⟩
  by_cases hc : cap = 1
  · have e : l.drop (s.k + 1) = [] := List.drop_eq_nil_of_le (by omega)
    show Prs W _ (l.drop (s.k + 1))
    rw [e]
    exact Prs.nil _
  · rw [if_neg hc]
    refine ⟨fun j x hj => ?_⟩
    obtain ⟨ad', e, hlt, g0, g1⟩ := h3.at_ (j + 1) x (by
      rw [List.getElem?_drop] at hj ⊢
      rw [show s.k + (j + 1) = s.k + 1 + j from by omega]
      exact hj)
    cases e
    refine ⟨_, rfl, hlt, ?_, ?_⟩
    · rw [add_two, add_of_add, show 2 + j * 2 = (j + 1) * 2 from by omega]; exact g0
    · rw [add_two, add_of_add, show 2 + (j * 2 + 1) = (j + 1) * 2 + 1 from by omega]; exact g1
set_option maxRecDepth 100000 in
set_option maxHeartbeats 1000000 in
theorem next_c (M : Nat) (l : List (Int × Int)) (hl : l.length ≤ 8796093022208) (s : MS) (ok : MOk l s) (w : World) (K : MX M l s w) : Calls Tryd.prog 22 #[.pointer (some ⟨M, 0, none⟩)] w fun e w' => e = .returned (.tuple #[.int .i64 (nextM l s).2.1, .bool (nextM l s).2.2]) ∧ MX M l (nextM l s).1 w' ∧ On M w w' := by
  have HK := Lib.hid K
  obtain ⟨A, cap, c0, hcap, C, hne⟩ := K.rest
  have c1 := K.left
  have c2 := K.failed
  have c3 := K.over
  have hs := K.lt
  have f0 := K.fr 0
  have f1 := K.fr 1
  have f2 := K.fr 2
  have f3 := K.fr 3
  clear K
  cases hd : s.dark with
  | false =>
    have HS := Lib.hid (show nextM l s = (s, 0, false) from by unfold nextM; rw [if_neg (by rw [hd]; decide)])
    rw [hd] at c2
    clear hd ok
    go_enter Tryd.func22, Tryd.ntmps22
    go_wp2_with fail
    go_ret2
    rw [HS.out]
    exact ⟨rfl, HK.out, On.refl M w⟩
  | true =>
    have hk := (ok.dk hd).1
    have HS := Lib.hid (show nextM l s = (⟨s.k + 1, energyAt l (s.k + 1), false, s.cnt⟩, l[s.k].2, true) from by unfold nextM; rw [if_pos hd, offAt_lt hk])
    rw [hd] at c2
    obtain ⟨ad, rfl, had, -, d1⟩ := C.at_ 0 l[s.k] (by simp [hk])
    rw [Nat.zero_mul, Nat.zero_add, add_one] at d1
    have hnb := Nat.ne_of_lt (hne ad rfl)
    have hl0 : (0 : Int) < ((l.length - s.k : Nat) : Int) := by omega
    have hl1 : 0 < l.length - s.k := by omega
    have hl2 : 1 ≤ l.length - s.k := by omega
    have HC := Lib.hid C
    generalize l[s.k] = x at *
    generalize hL : l.length - s.k = L at *
    have HX := Lib.hid ((HK.out.setFailed false).setRest hk hL ((fcell w (by decide) _).trans c0))
    by_cases hc1 : cap = 1
    · subst hc1
      obtain rfl : L = 1 := by omega
      simp only [if_true, Nat.sub_self] at HX
      clear hd ok
      go_enter Tryd.func22, Tryd.ntmps22
      go_wp2_with fail
      go_region
      all_goals
        have K1 := HX.out.next (World.drewB _)
        have O1 := Lib.hid ((((On.refl M w).set 2 (.bool false)).set 0 (.slice (some ad) 0 0)).trans (On.of_below (World.drewB _)))
        go_wp2_with fail
        refine (begin_c M l _ _ K1).mono ?_
        rintro e w3 ⟨rfl, K3, o3⟩
        go_wp2_with fail
        go_ret2
        rw [HS.out]
        exact ⟨rfl, K3, O1.out.trans o3⟩
    · rw [if_neg hc1] at HX
      clear hd ok
      go_enter Tryd.func22, Tryd.ntmps22
      go_wp2_with fail
      go_region
      all_goals
        have K1 := HX.out.next (World.drewB _)
        have O1 := Lib.hid ((((On.refl M w).set 2 (.bool false)).set 0 (.slice (some ⟨ad.block, ad.off + 2, none⟩) (L - 1) (cap - 1))).trans (On.of_below (World.drewB _)))
        go_wp2_with fail
        refine (begin_c M l _ _ K1).mono ?_
        rintro e w3 ⟨rfl, K3, o3⟩
        go_wp2_with fail
        go_ret2
        rw [HS.out]
        exact ⟨rfl, K3, O1.out.trans o3⟩
/-- the reference's meter as a value -/
def rvM (A : Option Addr) (len cap : Nat) (s : MS) : Value := .agg #[.slice A len cap, .int .i64 s.k, .int .i64 s.left, .bool s.dark, .int .i64 s.cnt]
set_option maxRecDepth 100000 in
set_option maxHeartbeats 1000000 in
theorem load_c (l : List (Int × Int)) (hl : l.length ≤ 8796093022208) (A : Option Addr) (cap k : Nat) (lf : Int) (b : Bool) (c : Nat) (w : World) (C : Prs w A l) : Calls Tryd.prog 48 #[.agg #[.slice A l.length cap, .int .i64 k, .int .i64 lf, .bool b, .int .i64 c]] w fun e w' => e = .returned (rvM A l.length cap ⟨k, energyAt l k, false, c⟩) ∧ Below w.heap.size w w' := by
  by_cases hk : k < l.length
  · have HE := Lib.hid (energyAt_lt hk)
    obtain ⟨ad, rfl, had, d0, -⟩ := C.at_ k l[k] (by simp [hk])
    have hkI : (k : Int) < (l.length : Int) := by omega
    have hk0 : (0 : Int) ≤ (k : Int) := by omega
    generalize l[k] = x at *
    have d1 : ∀ o1 o2, ((w.alloc o1).alloc o2).cell? (ad.add (k * 2)) = some (.int .i64 x.1) := fun o1 o2 => ((bt (ba w o1) (ba _ o2)).cell (by rw [block_of_add]; exact had)).trans d0
    clear C
    go_enter Tryd.func48, Tryd.ntmps48
    go_wp2_with fail
    refine bodyPost_ret (v := rvM (some ad) l.length cap ⟨k, x.1, false, c⟩) (by simp [results, Tryd.results48, go_sem, rvM]) rfl ⟨by rw [HE.out], bt (ba w _) (ba _ _)⟩
  · have HE := Lib.hid (energyAt_ge (l := l) (k := k) (by omega))
    have hkI : ¬ (k : Int) < (l.length : Int) := by omega
    clear C
    go_enter Tryd.func48, Tryd.ntmps48
    go_wp2_with fail
    refine bodyPost_ret (v := rvM A l.length cap ⟨k, -1, false, c⟩) (by simp [results, Tryd.results48, go_sem, rvM]) rfl ⟨by rw [HE.out], bt (ba w _) (ba _ _)⟩
/-- a block of a meter of the reference, all zero -/
structure ZB (X : Nat) (W : World) : Prop where
  lt : X < W.heap.size
  c0 : W.cell? ⟨X, 0, none⟩ = some (.slice none 0 0)
  c1 : W.cell? ⟨X, 1, none⟩ = some (.int .i64 0)
  c2 : W.cell? ⟨X, 2, none⟩ = some (.int .i64 0)
  c3 : W.cell? ⟨X, 3, none⟩ = some (.bool false)
  c4 : W.cell? ⟨X, 4, none⟩ = some (.int .i64 0)
  f0 : W.frozen? ⟨X, 0, none⟩ = false
  f1 : W.frozen? ⟨X, 1, none⟩ = false
  f2 : W.frozen? ⟨X, 2, none⟩ = false
  f3 : W.frozen? ⟨X, 3, none⟩ = false
  f4 : W.frozen? ⟨X, 4, none⟩ = false
theorem ZB.new (w : World) : ZB w.heap.size (w.alloc (.cells #[.slice none 0 0, .int .i64 0, .int .i64 0, .bool false, .int .i64 0] 55)) :=
  ⟨by simp, (World.cell?_alloc_at _ _ _ _ rfl).trans rfl, (World.cell?_alloc_at _ _ _ _ rfl).trans rfl, (World.cell?_alloc_at _ _ _ _ rfl).trans rfl, (World.cell?_alloc_at _ _ _ _ rfl).trans rfl, (World.cell?_alloc_at _ _ _ _ rfl).trans rfl, World.frozen?_alloc_at _ _ _ _ rfl, World.frozen?_alloc_at _ _ _ _ rfl, World.frozen?_alloc_at _ _ _ _ rfl, World.frozen?_alloc_at _ _ _ _ rfl, World.frozen?_alloc_at _ _ _ _ rfl⟩
theorem ZB.next {X : Nat} {W W' : World} (h : ZB X W) (hb : Below W.heap.size W W') : ZB X W' := by
  obtain ⟨hc, hf⟩ := bcell hb
  have hs := h.lt
  exact ⟨Nat.lt_of_lt_of_le hs hb.size, (hc _ _ hs).trans h.c0, (hc _ _ hs).trans h.c1, (hc _ _ hs).trans h.c2, (hc _ _ hs).trans h.c3, (hc _ _ hs).trans h.c4, (hf _ _ hs).trans h.f0, (hf _ _ hs).trans h.f1, (hf _ _ hs).trans h.f2, (hf _ _ hs).trans h.f3, (hf _ _ hs).trans h.f4⟩
set_option maxRecDepth 100000 in
theorem rstart_c (l : List (Int × Int)) (hl : l.length ≤ 8796093022208) (A : Option Addr) (cap : Nat) (w : World) (C : Prs w A l) : Calls Tryd.prog 28 #[.slice A l.length cap] w fun e w' => e = .returned (rvM A l.length cap (startM l)) ∧ Below w.heap.size w w' := by
  have HL := Lib.hid (load_c l hl A cap 0 0 false 0 _ (C.next (ba w (.cells #[.slice none 0 0, .int .i64 0, .int .i64 0, .bool false, .int .i64 0] 55))))
  have HZ := Lib.hid (ZB.new w)
  clear C
  go_enter Tryd.func28, Tryd.ntmps28
  go_wp2_with fail
  refine (HL.out).mono ?_
  rintro e w1 ⟨rfl, hb1⟩
  have HB := Lib.hid (bt (ba w _) hb1)
  obtain ⟨z, c0, c1, c2, c3, c4, f0, f1, f2, f3, f4⟩ := HZ.out.next hb1
  have HS := Lib.hid (show startM l = ⟨0, energyAt l 0, false, 0⟩ from rfl)
  generalize energyAt l 0 = en at *
  clear hb1
  unfold rvM
  go_wp2_with fail
  refine bodyPost_ret (v := rvM A l.length cap ⟨0, en, false, 0⟩) (by simp [results, Tryd.results28, go_sem, rvM, *]) rfl ⟨by rw [HS.out], ?_⟩
  repeat' first | with_reducible exact HB.out | refine Below.setCell ?_ (by simp) _
set_option maxRecDepth 100000 in
set_option maxHeartbeats 1000000 in
theorem rnext_c (l : List (Int × Int)) (hl : l.length ≤ 8796093022208) (s : MS) (ok : MOk l s) (A : Option Addr) (cap : Nat) (w : World) (C : Prs w A l) : Calls Tryd.prog 30 #[rvM A l.length cap s] w fun e w' => e = .returned (.tuple #[rvM A l.length cap (nextM l s).1, .int .i64 (nextM l s).2.1, .bool (nextM l s).2.2]) ∧ Below w.heap.size w w' := by
  have HC := Lib.hid C
  unfold rvM
  cases hd : s.dark with
  | false =>
    have HS := Lib.hid (show nextM l s = (s, 0, false) from by unfold nextM; rw [if_neg (by rw [hd]; decide)])
    have HD := Lib.hid hd
    clear hd ok C
    go_enter Tryd.func30, Tryd.ntmps30
    go_wp2_with fail
    refine bodyPost_ret (v := .tuple #[rvM A l.length cap s, .int .i64 0, .bool false]) (by simp [results, Tryd.results30, go_sem, rvM, HD.out]) rfl ⟨by rw [HS.out]; rfl, bt (ba w _) (ba _ _)⟩
  | true =>
    have hk := (ok.dk hd).1
    have HS := Lib.hid (show nextM l s = (⟨s.k + 1, energyAt l (s.k + 1), false, s.cnt⟩, l[s.k].2, true) from by unfold nextM; rw [if_pos hd, offAt_lt hk])
    obtain ⟨ad, rfl, had, -, d0⟩ := C.at_ s.k l[s.k] (by simp [hk])
    rw [← add_of_add, add_one] at d0
    have d1 : ∀ o1 o2, ((w.alloc o1).alloc o2).cell? ⟨(ad.add (s.k * 2)).block, (ad.add (s.k * 2)).off + 1, none⟩ = some (.int .i64 l[s.k].2) := fun o1 o2 => ((bt (ba w o1) (ba _ o2)).cell (by rw [block_of_add]; exact had)).trans d0
    have hkI : (s.k : Int) < (l.length : Int) := by omega
    have hk0 : (0 : Int) ≤ (s.k : Int) := by omega
    have hk1 : (s.k : Int) ≤ 8796093022208 := by omega
    have HLD := Lib.hid (fun W (h : Below w.heap.size w W) => load_c l hl (some ad) cap (s.k + 1) s.left true s.cnt W (HC.out.next h))
    generalize l[s.k] = x at *
    clear hd ok C
    have HZ := Lib.hid (ZB.new (w.alloc (.cells #[.slice (some ad) l.length cap, .int .i64 ((s.k : Int) + 1), .int .i64 s.left, .bool true, .int .i64 s.cnt] 55)))
    go_enter Tryd.func30, Tryd.ntmps30
    go_wp2_with fail
    refine (HLD.out _ (bt (ba w _) (ba _ _))).mono ?_
    rintro e w1 ⟨rfl, hb1⟩
    have HB := Lib.hid (bt (bt (ba w _) (ba _ _)) hb1)
    obtain ⟨z, c0, c1, c2, c3, c4, f0, f1, f2, f3, f4⟩ := HZ.out.next hb1
    generalize energyAt l (s.k + 1) = en at *
    clear hb1 d0 d1
    unfold rvM
    rw [World.size_alloc] at c0 c1 c2 c3 c4 f0 f1 f2 f3 f4
    go_wp2_with fail
    refine bodyPost_ret (v := .tuple #[rvM (some ad) l.length cap ⟨s.k + 1, en, false, s.cnt⟩, .int .i64 x.2, .bool true]) (by simp [results, Tryd.results30, go_sem, rvM, *]) rfl ⟨by rw [HS.out]; rfl, ?_⟩
    repeat' first | with_reducible exact HB.out | refine Below.setCell ?_ (Nat.le_succ _) _
set_option maxRecDepth 100000 in
set_option maxHeartbeats 1000000 in
theorem rspend_c (l : List (Int × Int)) (hl : l.length ≤ 8796093022208) (s : MS) (ok : MOk l s) (n : Int) (A : Option Addr) (cap : Nat) (w : World) : Calls Tryd.prog 29 #[rvM A l.length cap s, .int .i64 n] w fun e w' => e = .returned (.tuple #[rvM A l.length cap (spendM l s n).1, .bool (spendM l s n).2]) ∧ Below w.heap.size w w' := by
  unfold rvM
  have hb2 := fun o1 o2 => bt (ba w o1) (ba (w.alloc o1) o2)
  cases hd : s.dark with
  | true =>
    have HS := Lib.hid (show spendM l s n = (s, false) from by unfold spendM; rw [if_pos hd])
    have HD := Lib.hid hd
    clear hd ok
    by_cases hn0 : n < 0
    all_goals
      go_enter Tryd.func29, Tryd.ntmps29
      go_wp2_with fail
      refine bodyPost_ret (v := .tuple #[rvM A l.length cap s, .bool false]) (by simp [results, Tryd.results29, go_sem, rvM, HD.out]) rfl ⟨by rw [HS.out]; rfl, hb2 _ _⟩
  | false =>
    have hlf := ok.lf hd
    have hcl : (s.cnt : Int) ≤ 8796093022208 := by have := ok.cnt; rw [if_neg (by rw [hd]; decide)] at this; have := ok.le; omega
    by_cases hk : l.length ≤ s.k
    · have HS := Lib.hid (show spendM l s n = (s, true) from by unfold spendM; rw [if_neg (by rw [hd]; decide), if_pos hk])
      have HD := Lib.hid hd
      have hlft := hlf.2 hk
      have HE := Lib.hid hlft
      rw [hlft]
      clear hd ok hlf hk hlft
      by_cases hn0 : n < 0
      all_goals
        go_enter Tryd.func29, Tryd.ntmps29
        go_wp2_with fail
        refine bodyPost_ret (v := .tuple #[rvM A l.length cap s, .bool true]) (by simp [results, Tryd.results29, go_sem, rvM, HD.out, HE.out]) rfl ⟨by rw [HS.out]; rfl, hb2 _ _⟩
    · have hlft := hlf.1 (by omega)
      have hne : (s.left == -1) = false := by simp; omega
      have hne2 : ¬ s.left = -1 := by omega
      by_cases hn0 : n < 0
      · have HS := Lib.hid (show spendM l s n = (⟨s.k, s.left, false, s.cnt⟩, true) from by
          unfold spendM
          rw [if_neg (by rw [hd]; decide), if_neg hk, if_pos (by omega), show max n 0 = 0 from by omega]
          simp)
        clear hd ok hlf hk
        generalize s.left = sl at *
        go_enter Tryd.func29, Tryd.ntmps29
        go_wp2_with fail
        refine bodyPost_ret (v := .tuple #[rvM A l.length cap ⟨s.k, sl, false, s.cnt⟩, .bool true]) (by simp [results, Tryd.results29, go_sem, rvM]) rfl ⟨by rw [HS.out]; rfl, hb2 _ _⟩
      · by_cases hn : n ≤ s.left
        · have HS := Lib.hid (show spendM l s n = (⟨s.k, s.left - n, false, s.cnt⟩, true) from by
            unfold spendM
            rw [if_neg (by rw [hd]; decide), if_neg hk, if_pos (by omega), show max n 0 = n from by omega])
          clear hd ok hlf hk
          generalize s.left = sl at *
          go_enter Tryd.func29, Tryd.ntmps29
          go_wp2_with fail
          refine bodyPost_ret (v := .tuple #[rvM A l.length cap ⟨s.k, sl - n, false, s.cnt⟩, .bool true]) (by simp [results, Tryd.results29, go_sem, rvM]) rfl ⟨by rw [HS.out]; rfl, hb2 _ _⟩
        · have HS := Lib.hid (show spendM l s n = (⟨s.k, 0, true, s.cnt + 1⟩, false) from by
            unfold spendM
            rw [if_neg (by rw [hd]; decide), if_neg hk, if_neg (by omega)])
          clear hd ok hlf hk
          generalize s.left = sl at *
          go_enter Tryd.func29, Tryd.ntmps29
          go_wp2_with fail
          refine bodyPost_ret (v := .tuple #[rvM A l.length cap ⟨s.k, 0, true, s.cnt + 1⟩, .bool false]) (by simp [results, Tryd.results29, go_sem, rvM]) rfl ⟨by rw [HS.out]; rfl, hb2 _ _⟩
end Go.Proofs.YtabfjiapoafgaaaDoor
