/-
  All's iterator, whatever the loop's body.
-/
import Derived.Test.YtabfjiapoafgaaaDoorRpt
import Derived.Sort.LoopGhostIn
import Derived.Test.YtabfjiapoafgaaaDoorRfp
namespace Go.Proofs.YtabfjiapoafgaaaDoor
open Go.RowKit Go.Shelf
set_option linter.unusedVariables false
attribute [local go_sem] Oper.semAt_some

theorem perL_rep (o : Int) (n : Nat) : perL o (List.replicate n 0) = List.replicate n (0, o) := by unfold perL; simp
theorem IsK.top {m k n : Nat} (h : IsK m k (List.replicate n m)) : k + 1 = offN (m + 1) (n + 1) := by
  have h1 := h.more
  have h2 := h1.num
  rw [List.length_replicate] at h2
  have h3 := valN_rep0 (m + 1) [] (n + 1)
  rw [List.nil_append] at h3
  rw [h3, show valN (m + 1) [] = 0 from rfl, Nat.zero_mul] at h2
  omega
theorem IsK.low (m n : Nat) : IsK m (offN (m + 1) n) (List.replicate n 0) := by
  refine ⟨fun y hy => by rw [List.eq_of_mem_replicate hy]; omega, ?_⟩
  have h3 := valN_rep0 (m + 1) [] n
  rw [List.nil_append] at h3
  rw [List.length_replicate, h3, show valN (m + 1) [] = 0 from rfl, Nat.zero_mul, Nat.add_zero]
theorem ox_kept {X : Nat} {l : List (Int × Int)} {W W' : World} (h : OX X l W) (hk : W'.heap[X]? = W.heap[X]?) : OX X l W' := by
  obtain ⟨hl, h0 | ⟨g, cap, cur, hv, hg, hh, h1, h2, h3, h4⟩⟩ := h
  · exact ⟨hl, .inl h0⟩
  · have e : g = X := by
      simp only [Value.slice.injEq, Option.some.injEq, Addr.mk.injEq, and_true, true_and] at hv
      exact hv.1.symm
    subst e
    exact ⟨hl, .inr ⟨g, cap, cur, hv, hg, hk.trans hh, h1, h2, h3, h4⟩⟩
/-- what the next schedule is -/
def AdvK (X m : Nat) (o : Int) (k j : Nat) (w : World) (e : Ending) (w' : World) : Prop := ∃ b : Bool, e = .returned (.bool b) ∧ (b = true → ∃ es', IsK m (k + 1) es' ∧ es'.length = j ∧ OX X (perL o es') w') ∧ (b = false → k + 1 = offN (m + 1) (j + 1)) ∧ On X w w'
theorem adv_k (X m : Nat) (hm : m ≤ 1073741824) (o : Int) (es : List Nat) {j k : Nat} (hj : es.length = j) (hl : j ≤ 1000) (hk : IsK m k es) (w : World) (h : OX X (perL o es) w) : Calls Tryd.prog 63 #[.slice (some ⟨X, 0, none⟩) j j, .int .i64 m] w (AdvK X m o k j w) := by
  subst hj
  refine (advance_c X m hm o es hl hk.dig w h).mono ?_
  rintro e w' ⟨⟨p, x, r, hx, he, rfl, hox⟩ | ⟨he, rfl, hox⟩, hon⟩
  · refine ⟨true, rfl, fun _ => ⟨_, ?_, ?_, hox⟩, (fun h => by cases h), hon⟩
    · rw [he] at hk
      exact hk.inc hx
    · rw [he]; simp
  · refine ⟨false, rfl, (fun h => by cases h), fun _ => ?_, hon⟩
    rw [he] at hk
    exact hk.top
theorem clone_x {X j : Nat} {o : Int} {es : List Nat} {w : World} (hj : es.length = j) (hl : j ≤ 1000) (h : OX X (perL o es) w) : Calls Tryd.prog 45 #[.slice (some ⟨X, 0, none⟩) j j] w (GivesO (perL o es) w) := by
  have := clone_o (perL o es) (by rw [perL_len, hj]; omega) (some ⟨X, 0, none⟩) j w h.prs
  rw [perL_len, hj] at this
  exact this
theorem OX.is {X : Nat} {l : List (Int × Int)} {W : World} (h : OX X l W) : ∃ cs, W.heap[X]? = some (Obj.cells cs 38 (0, 0)) := by
  obtain ⟨hl, ⟨h0, _⟩ | ⟨g, cap, cur, hv, hg, hh, _⟩⟩ := h
  · simp at h0
  · have e : g = X := by
      simp only [Value.slice.injEq, Option.some.injEq, Addr.mk.injEq, and_true, true_and] at hv
      exact hv.1.symm
    subst e
    exact ⟨_, hh⟩
set_option maxRecDepth 100000 in
set_option maxHeartbeats 4000000 in
theorem iter61 {n : Nat} (hn : 1 ≤ n) (L FB MB OB : Nat) (f m : Nat) (o : Int) (hf : f ≤ 200) (hm : m ≤ 1073741824) (ho : validP ((m : Int), o) = true) (J : Nat → Nat → World → Prop) (Lv : World → Prop)
    (hE : ∀ k X W, J k X W → W.cell? ⟨FB, 0, none⟩ = some (.int .i64 f) ∧ W.cell? ⟨MB, 0, none⟩ = some (.int .i64 m) ∧ W.cell? ⟨OB, 0, none⟩ = some (.int .i64 o))
    (hX : ∀ k X W W', J k X W → On X W W' → J k X W')
    (hN : ∀ k X X' W, J k X W → W.heap.size ≤ X' → J k X' W)
    (hY : ∀ k X r B u W, k < totalN f m → Sched m o k r → r.length ≤ f → J k X W → X < B → B ≤ W.heap.size → W.ownsRow B 38 2 u r.length (flat r) → (∃ cs, W.heap[X]? = some (Obj.cells cs 38 (0, 0))) →
      YieldAt Fence.wide (n - 1) Tryd.prog L #[u] W fun e W' => (e = .returned (.bool true) ∧ J (k + 1) X W' ∧ W'.heap[X]? = W.heap[X]?) ∨ (e = .returned (.bool false) ∧ Lv W'))
    (W : World) (X0 : Nat) (h0 : J 0 X0 W) :
    CallsIn Fence.wide n Tryd.prog 61 #[.func (.yield L) #[] #[], .pointer (some ⟨FB, 0, none⟩), .pointer (some ⟨MB, 0, none⟩), .pointer (some ⟨OB, 0, none⟩)] W fun e W' => (∃ v, e = .returned v) ∧ ((∃ X, J (totalN f m) X W') ∨ Lv W') := by
  have hfI : (f : Int) ≤ 200 := by omega
  have hov := validP_iff.1 ho
  obtain ⟨⟨hm0, hm1⟩, ho0, ho1⟩ := hov
  have HVO := Lib.hid ho
  obtain ⟨c0, c1, c2⟩ := hE _ _ _ h0
  have H0 := Lib.hid h0
  have HE := Lib.hid hE
  have HX := Lib.hid hX
  have HN := Lib.hid hN
  have HY := Lib.hid hY
  clear h0 hE hX hN hY ho
  refine callsIn_of_wp Tryd.func61 rfl trivial ?_ rfl
  simp only [Tryd.ntmps61, List.size_toArray, List.length_cons, List.length_nil, Nat.reduceAdd, Nat.reduceSub, Array.replicate_succ, Array.replicate_zero, List.push_toArray, List.append_toArray, List.nil_append, List.cons_append]
  gi_wp2_with (refine ⟨trivial, ?_⟩; gi_at_call 37; refine (callsIn_wide.2 (valid_c _ _ _)).mono ?_; rintro e w2 ⟨rfl, hb2⟩; rw [HVO.out]; have HB2 := Lib.hid hb2; clear hb2; have c0 := (HE.out _ _ _ (HX.out _ _ _ _ H0.out (On.of_below HB2.out))).1)
  have hJ2 := HX.out _ _ _ _ H0.out (On.of_below HB2.out)
  have HJ2 := Lib.hid hJ2
  clear hJ2 c0 c1 c2
  gi_loopw [19] (fun i wr => ∃ j X : Nat, j ≤ f + 1 ∧ i = .int .i64 j ∧ J (offN (m + 1) j) X wr) (fun i _ => f + 1 - (intOf i).toNat)
  case atStart => exact ⟨0, X0, by omega, rfl, HJ2.out⟩
  case round =>
    obtain ⟨j, X1, hj, rfl, hJ⟩ := hrel
    have HJ := Lib.hid hJ
    by_cases hlt : j ≤ f
    · have hjI : (j : Int) < (f : Int) + 1 := by omega
      obtain ⟨_, _, c2⟩ := HE.out _ _ _ hJ
      have hb3 := ba wr (.cells #[.int .i64 0, .int .i64 o] 38)
      have HJ3 := Lib.hid (HX.out _ _ _ _ hJ (On.of_below hb3))
      have HRP := Lib.hid (repeat_c o j (by omega) wr.heap.size 1 _ (Prs.one wr 0 o))
      clear hJ
      gi_wp2_with (refine ⟨trivial, ?_⟩; gi_at_call 62; refine (callsIn_wide.2 HRP.out).mono ?_; rintro e w4 ⟨rfl, hox, hb4⟩; have HOX := Lib.hid hox; have HB4 := Lib.hid hb4; clear hox hb4)
      have HJ4 := Lib.hid (HX.out _ _ _ _ (HN.out _ _ (wr.heap.size + 1) _ HJ3.out (by simp)) (On.of_below HB4.out))
      rw [World.size_alloc] at HOX
      rw [← perL_rep] at HOX
      clear HB4 HJ3 HRP hb3 c2
      generalize wr.heap.size + 1 = X at *
      gi_loopg [7] (1 + (offN (m + 1) (j + 1) - offN (m + 1) j)) (fun g more wr => (more = .bool true ∧ ∃ k es, g = 1 + (offN (m + 1) (j + 1) - k) ∧ IsK m k es ∧ es.length = j ∧ OX X (perL o es) wr ∧ J k X wr) ∨ (more = .bool false ∧ g = 0 ∧ J (offN (m + 1) (j + 1)) X wr))
      case atStart => exact .inl ⟨rfl, _, _, rfl, IsK.low m j, by simp, HOX.out, HJ4.out⟩
      case round =>
        rcases hrel with ⟨rfl, k, es, hg, hk, hes, hox, hJ⟩ | ⟨rfl, hg, hJ⟩
        · have HJK := Lib.hid hJ
          have HK := Lib.hid hk
          have HES := Lib.hid hes
          have HOXK := Lib.hid hox
          have HG := Lib.hid hg
          have HCL := Lib.hid (clone_x hes (by omega) hox)
          have hxl := hox.lt
          clear hJ hk hox hg HOX HJ4
          gi_wp2_with (refine ⟨trivial, ?_⟩; gi_at_call 45; refine (callsIn_wide.2 HCL.out).mono ?_; rintro e w6 ⟨u, rfl, hown, hb6⟩; have HO6 := Lib.hid (HOXK.out.next hb6); obtain ⟨fn, tmps, assign, body, hy, hR⟩ := HY.out k X (perL o es) _ u w6 ((HK.out.len f).1 (by omega)) ⟨es, HK.out, rfl⟩ (by rw [perL_len]; omega) (HX.out _ _ _ _ HJK.out (On.of_below hb6)) hxl hb6.size hown HO6.out.is; clear hown hb6)
          refine hR.mono ?_
          rintro r W7 (⟨rfl, hJ7, hk7⟩ | ⟨rfl, hx7⟩)
          · have HO7 := Lib.hid (ox_kept HO6.out hk7)
            have HJ7 := Lib.hid hJ7
            obtain ⟨_, m7, _⟩ := HE.out _ _ _ hJ7
            have HAD := Lib.hid (adv_k X m hm o es hes (by omega) HK.out W7 HO7.out)
            clear hJ7 hk7 hR hy HO6 HCL
            gi_wp2_with (refine ⟨trivial, ?_⟩; gi_at_call 63; refine (callsIn_wide.2 HAD.out).mono ?_; rintro e w8 ⟨b, rfl, ht8, hf8, hon8⟩; have HT8 := Lib.hid ht8; have HF8 := Lib.hid hf8; have HON := Lib.hid hon8; clear ht8 hf8 hon8)
            have HJ8 := Lib.hid (HX.out _ _ _ _ HJ7.out HON.out)
            cases b
            · have he := HF8.out rfl
              rw [he] at HJ8
              gi_roundg 0
              case measure => rw [HG.out]; omega
              case rel => exact .inr ⟨rfl, rfl, HJ8.out⟩
            · obtain ⟨es', h1, h2, h3⟩ := HT8.out rfl
              have hbd := HK.out.bound
              rw [hes] at hbd
              gi_roundg (1 + (offN (m + 1) (j + 1) - (k + 1)))
              case measure => rw [HG.out]; omega
              case rel => exact .inl ⟨rfl, k + 1, es', rfl, h1, h2, h3, HJ8.out⟩
          · gi_wp2
            refine bodyPost_ret (results_none rfl _ _ _) rfl ?_
            exact ⟨⟨_, rfl⟩, .inr hx7⟩
        · have HJ9 := Lib.hid hJ
          clear hJ
          gi_wp2
          go_roundw
          case rel => exact ⟨j + 1, X, by omega, by go_num, HJ9.out⟩
          case measure => simp [intOf]; omega
    · obtain rfl : j = f + 1 := by omega
      have hjI : ¬ ((f + 1 : Nat) : Int) < (f : Int) + 1 := by omega
      clear hJ
      gi_wp2
      go_end0
      exact ⟨⟨_, rfl⟩, .inl ⟨X1, HJ.out⟩⟩
theorem okA_f {f m o : Int} (h : okA f m o = false) (hf : ¬ f < 0) : validP (m, o) = false := by
  unfold okA at h
  rw [decide_eq_false_iff_not] at h
  exact validP_ff (fun q => h ⟨by omega, q⟩)
theorem okA_t {f m : Nat} {o : Int} (h : okA f m o = true) : m ≤ 1073741824 ∧ validP ((m : Int), o) = true := by
  unfold okA at h
  rw [decide_eq_true_iff] at h
  exact ⟨by omega, validP_iff.2 h.2⟩
set_option maxRecDepth 100000 in
theorem iter61_no {n : Nat} (hn : 1 ≤ n) (L FB MB OB : Nat) (f m o : Int) (hbad : okA f m o = false) (W : World) (c0 : W.cell? ⟨FB, 0, none⟩ = some (.int .i64 f)) (c1 : W.cell? ⟨MB, 0, none⟩ = some (.int .i64 m)) (c2 : W.cell? ⟨OB, 0, none⟩ = some (.int .i64 o)) :
    CallsIn Fence.wide n Tryd.prog 61 #[.func (.yield L) #[] #[], .pointer (some ⟨FB, 0, none⟩), .pointer (some ⟨MB, 0, none⟩), .pointer (some ⟨OB, 0, none⟩)] W fun e W' => (∃ v, e = .returned v) ∧ Below W.heap.size W W' := by
  refine callsIn_of_wp Tryd.func61 rfl trivial ?_ rfl
  simp only [Tryd.ntmps61, List.size_toArray, List.length_cons, List.length_nil, Nat.reduceAdd, Nat.reduceSub, Array.replicate_succ, Array.replicate_zero, List.push_toArray, List.append_toArray, List.nil_append, List.cons_append]
  by_cases hf : f < 0
  · clear hbad
    gi_wp2
    refine ⟨trivial, ?_⟩
    gi_wp2
    refine bodyPost_ret (results_none rfl _ _ _) rfl ?_
    exact ⟨⟨_, rfl⟩, Below.refl _ _⟩
  · have HV := Lib.hid (okA_f hbad hf)
    clear hbad
    gi_wp2_with (refine ⟨trivial, ?_⟩; gi_at_call 37; refine (callsIn_wide.2 (valid_c _ _ _)).mono ?_; rintro e w2 ⟨rfl, hb2⟩; rw [HV.out]; have HB2 := Lib.hid hb2; clear hb2)
    refine bodyPost_ret (results_none rfl _ _ _) rfl ?_
    exact ⟨⟨_, rfl⟩, HB2.out⟩
end Go.Proofs.YtabfjiapoafgaaaDoor
