/-
  The reference's All.
-/
import Derived.Test.YtabfjiapoafgaaaDoorRow
namespace Go.Proofs.YtabfjiapoafgaaaDoor
open Go.RowKit
set_option linter.unusedVariables false
attribute [local go_sem ↓] Go.wp_at_zero Go.wp_at_succ

/-- the schedules so far, and the one at hand -/
structure RA (w : World) (o : Int) (go co k : Nat) (vs : List Value) (Ls : List (List (Int × Int))) (g cp n : Nat) (cur : List Nat) (W : World) : Prop where
  below : Below w.heap.size w W
  out : W.ownsRow w.heap.size 22 1 (.slice (some ⟨go, 0, none⟩) k co) k vs
  fin : Fin2 w.heap.size vs Ls W.heap.size W
  l : W.ownsRow w.heap.size 38 2 (.slice (some ⟨g, 0, none⟩) n cp) n (flat (perL o cur))
  nx : ∀ x ∈ vs, x.ownBlock ≠ some g
  hn : cur.length = n
  hk : vs.length = k
section
variable {w W W' : World} {o : Int} {go co k g cp n : Nat} {vs : List Value} {Ls : List (List (Int × Int))} {cur : List Nat}
theorem RA.next (h : RA w o go co k vs Ls g cp n cur W) (hb : Below W.heap.size W W') : RA w o go co k vs Ls g cp n cur W' :=
  ⟨bt h.below hb, owns_below h.out hb, (h.fin.next hb).mono hb.size, owns_below h.l hb, h.nx, h.hn, h.hk⟩
theorem RA.glt (h : RA w o go co k vs Ls g cp n cur W) : g < W.heap.size := (h.l.lt _ rfl).2
theorem RA.cell (h : RA w o go co k vs Ls g cp n cur W) {j : Nat} {x : Int × Int} (hx : (perL o cur)[j]? = some x) : W.cell? ⟨g, j * 2, none⟩ = some (.int .i64 x.1) := by
  have hj := (List.getElem?_eq_some_iff.1 hx).1
  rw [perL_len, h.hn] at hj
  exact (World.ownsRow.cellAt h.l _ (by omega)).trans (flat_at _ j x hx).1
theorem RA.frozen (h : RA w o go co k vs Ls g cp n cur W) (j : Nat) : W.frozen? ⟨g, j, none⟩ = false := World.ownsRow.frozenAt h.l j
theorem RA.store (h : RA w o go co k vs Ls g cp n cur W) {p s : List Nat} {e : Nat} (hc : cur = p ++ e :: s) (e' : Nat) : RA w o go co k vs Ls g cp n (p ++ e' :: s) (W.setCell ⟨g, p.length * 2, none⟩ (.int .i64 e')) := by
  obtain ⟨h1, h2⟩ := World.ownsRow.stored h.l (p.length * 2) (.int .i64 (e' : Int))
  rw [hc, flat_set _ p.length _ _ (perL_at o rfl), perL_set o e' rfl] at h1
  refine ⟨h.below.setCell (p := ⟨g, p.length * 2, none⟩) (h.l.lt _ rfl).1 _, h.out.kept h2 (.inr (fun q => owns_ne h.l h.out (by decide) rfl q)), (h.fin.grown h2 (fun x hx gg hgg e => h.nx x hx (by rw [hgg, e]))).mono h2.size, h1, h.nx, ?_, h.hk⟩
  rw [← h.hn, hc]
  simp
end
theorem RA.start (w : World) (o : Int) : RA w o w.heap.size 0 0 [] [] (w.heap.size + 1) 0 0 [] ((w.alloc (.cells #[] 22)).alloc (.cells #[] 38)) := by
  have h1 := own_empty w 22 1
  have h2 := own_empty (w.alloc (.cells #[] 22)) 38 2
  rw [World.size_alloc] at h2
  exact ⟨bt (ba w _) (ba _ _), owns_below h1 (ba _ _), Fin2.nil _ _ _, owns_mono h2 (by omega), fun x h => (by cases h), rfl, rfl⟩
/-- a copy of the schedule behind the others -/
theorem RA.push {w W W2 W4 : World} {o : Int} {go co k g cp n go' co' : Nat} {vs : List Value} {Ls : List (List (Int × Int))} {cur : List Nat} {u : Value} (h : RA w o go co k vs Ls g cp n cur W)
    (hg1 : (W.alloc (.cells #[] 38)).grownBy W2 (some W.heap.size)) (hu : W2.ownsRow W.heap.size 38 2 u n (flat (perL o cur)))
    (hg2 : (W2.alloc (.cells #[u] 22)).grownBy W4 (some go)) (ho : W4.ownsRow w.heap.size 22 1 (.slice (some ⟨go', 0, none⟩) (k + 1) co') (k + 1) (vs ++ [u])) : RA w o go' co' (k + 1) (vs ++ [u]) (Ls ++ [perL o cur]) g cp n cur W4 := by
  have hb2 : Below W.heap.size W W2 := (ba W (.cells #[] 38)).grown hg1 (by simp) (fun j e => by cases e; exact Nat.le_refl _)
  have h2 := (h.next hb2).next (ba W2 (.cells #[u] 22))
  have hu3 := owns_below hu (ba W2 (.cells #[u] 22))
  have hne : go ≠ g := fun e => by subst e; exact owns_ne h2.l h2.out (by decide) rfl rfl
  have hgw := (h2.out.lt _ rfl)
  have hbl : Below w.heap.size w W4 := h2.below.grown hg2 h2.below.size (fun j e => by cases e; exact hgw.1)
  have hu4 : W4.ownsRow W.heap.size 38 2 u n (flat (perL o cur)) := hu3.kept hg2 (by
    cases q : u.ownBlock with
    | none => exact .inl rfl
    | some z => exact .inr (fun e => owns_ne hu3 h2.out (by decide) q (by rw [e]; rfl)))
  have hf4 : Fin2 w.heap.size vs Ls W.heap.size W4 := ((h.fin.next hb2).next (ba W2 (.cells #[u] 22))).grown hg2 (fun x hx z hz e => by
    obtain ⟨j, r', _, _, hr⟩ := h2.fin.at_ hx
    exact owns_ne hr h2.out (by decide) hz (by rw [← e]; rfl))
  have hWW : W.heap.size ≤ W4.heap.size := Nat.le_trans hb2.size (Nat.le_trans (by simp) hg2.size)
  refine ⟨hbl, ho, ?_, h2.l.kept hg2 (.inr (fun e => hne (Option.some.inj e).symm)), ?_, h.hn, by rw [List.length_append, h.hk]; rfl⟩
  · have := (hf4.mono hWW).snoc (r := perL o cur) (by rw [perL_len, h.hn]; exact owns_mono hu4 h.below.size) (Nat.le_refl _)
    exact this
  · intro x hx e
    rcases List.mem_append.1 hx with hx | hx
    · exact h.nx x hx e
    · rw [List.mem_singleton.1 hx] at e
      have := (hu.lt _ e).1
      have := h.glt
      omega
/-- a period more -/
theorem RA.more {w W W2 : World} {o : Int} {go co k g cp n g' cp' : Nat} {vs : List Value} {Ls : List (List (Int × Int))} {cur : List Nat} (h : RA w o go co k vs Ls g cp n cur W)
    (hg : (W.alloc (.cells #[.int .i64 0, .int .i64 o] 38)).grownBy W2 (some g)) (ho : W2.ownsRow w.heap.size 38 2 (.slice (some ⟨g', 0, none⟩) (n + 1) cp') (n + 1) (flat (perL o cur) ++ [.int .i64 0, .int .i64 o]))
    (hgg : some g = some g' ∨ g' = (W.alloc (.cells #[.int .i64 0, .int .i64 o] 38)).heap.size) : RA w o go co k vs Ls g' cp' (n + 1) (cur ++ [0]) W2 := by
  have h2 := h.next (ba W (.cells #[.int .i64 0, .int .i64 o] 38))
  refine ⟨h2.below.grown hg h2.below.size (fun j e => by cases e; exact (h2.l.lt _ rfl).1), h2.out.kept hg (.inr (fun q => owns_ne h2.l h2.out (by decide) rfl q)), (h2.fin.grown hg (fun x hx z hz e => h.nx x hx (by rw [hz, e]))).mono hg.size, ?_, ?_, by rw [List.length_append, h.hn]; rfl, h.hk⟩
  · have e : flat (perL o (cur ++ [0])) = flat (perL o cur) ++ [.int .i64 0, .int .i64 o] := by
      unfold perL
      rw [List.map_append, flat_append]
      rfl
    rw [e]
    exact ho
  · intro x hx e
    rcases hgg with q | q
    · rw [← q] at e; exact h.nx x hx e
    · have := h2.fin.lt x hx _ e
      omega
/-- what the reference's All answers -/
def RallP (w : World) (K m : Nat) (o : Int) (e : Ending) (w' : World) : Prop := ∃ A cap Ls, e = .returned (.slice A Ls.length cap) ∧ Rws w' A Ls ∧ FirstL m o K Ls ∧ Below w.heap.size w w'
def lenOfV : Value → Nat
  | .slice _ n _ => n
  | _ => 0
set_option maxRecDepth 100000 in
set_option maxHeartbeats 4000000 in
theorem rall_c (f m : Nat) (o : Int) (lim : Nat) (hf : f ≤ 200) (hl2 : lim ≤ 1000) (hok : okA f m o = true) (w : World) : Calls Tryd.prog 25 #[.int .i64 f, .int .i64 m, .int .i64 o, .int .i64 lim] w (RallP w (min lim (totalN f m)) m o) := by
  obtain ⟨hm, ho⟩ := okA_t hok
  obtain ⟨⟨hm0, hm1⟩, ho0, ho1⟩ := validP_iff.1 ho
  obtain ⟨i22, hi, hz0, hz1, hz2⟩ := info_parts info22
  obtain ⟨i38, hj, hy0, hy1, hy2⟩ := info_parts info38
  have hlI : (lim : Int) ≤ 1000 := by omega
  have hfI : (f : Int) ≤ 200 := by omega
  have hf0 : (0 : Int) ≤ (f : Int) := by omega
  have HR0 := Lib.hid (RA.start w o)
  simp only at hm0 hm1 ho0 ho1
  clear hok ho
  go_enter Tryd.func25, Tryd.ntmps25
  go_wp2_with fail
  go_loopw [9, 10] (fun ov lv wr => ∃ (go co k g cp n : Nat) (vs : List Value) (Ls : List (List (Int × Int))) (es : List Nat), ov = .slice (some ⟨go, 0, none⟩) k co ∧ lv = .slice (some ⟨g, 0, none⟩) n cp ∧ RA w o go co k vs Ls g cp n es wr ∧ IsK m k es ∧ FirstL m o k Ls ∧ k ≤ lim ∧ k ≤ totalN f m) (fun ov _ _ => lim - lenOfV ov)
  case atStart => exact ⟨_, _, _, _, _, _, _, _, [], rfl, rfl, HR0.out, IsK.zero m, FirstL.nil m o, by omega, by omega⟩
  case round =>
    obtain ⟨go, co, k, g, cp, n, vs, Ls, es, rfl, rfl, R, hK, hF, hkl, hkt⟩ := hrel
    have HR := Lib.hid R
    have HK := Lib.hid hK
    have HF := Lib.hid hF
    have hnk : n ≤ k := by
      have h1 := hK.bound.1
      have h2 := offN_ge (m + 1) (by omega) es.length
      rw [R.hn] at h2 h1
      omega
    have hnI : (n : Int) ≤ 1000 := by omega
    have hkI : (k : Int) ≤ 1000 := by omega
    have hlen := hK.len f
    rw [R.hn] at hlen
    by_cases hc : n ≤ f ∧ k < lim
    · obtain ⟨hc1, hc2⟩ := hc
      have hkt1 : k + 1 ≤ totalN f m := hlen.1 hc1
      clear hlen hkt
      have hc1I : (n : Int) ≤ (f : Int) := by omega
      have hc2I : (k : Int) < (lim : Int) := by omega
      have hsz := R.below.size
      have hgw := R.glt
      have hC := Prs.of_own R.l
      have hnews : ∀ (j : Nat) u, (flat (perL o es))[j]? = some u → (wr.alloc (.cells #[] 38)).cell? ((⟨g, 0, none⟩ : Addr).add j) = some u := by
        obtain ⟨A, cap, e, -, C⟩ := hC
        cases e
        exact (C.next (ba wr (.cells #[] 38))).cells
      have HNEWS := Lib.hid hnews
      have HE1 := Lib.hid (own_empty wr 38 2)
      have HLEN := Lib.hid (show (flat (perL o es)).length = n * 2 by rw [flat_len, perL_len, R.hn])
      have HON := Lib.hid (flat_one (perL o es))
      clear hC hnews R hK hF
      go_wp2_with (at_builtin; first
        | (refine wpList_append_own _ rfl _ _ 22 rfl wr.heap.size 38 i38 _ 2 16 Tryd.underlying22 hj hy0 hy1 hy2 rfl (by decide) (.slice (some ⟨wr.heap.size, 0, none⟩) 0 0) 0 [] rfl HE1.out ⟨g, 0, none⟩ n cp (flat (perL o es)) rfl HLEN.out HNEWS.out HON.out (by unfold maxLen; omega) (by omega) (by simp) ?_; intro u w2 hown2 hgrow2 hnl2; clear hnl2; rw [Nat.zero_add, List.nil_append] at hown2; obtain ⟨A2, cap2, rfl, hc22, hP22⟩ := Prs.of_own (l := perL o es) hown2; have HOW2 := Lib.hid hown2; have HGR2 := Lib.hid hgrow2; have hb2 := Lib.hid ((ba wr (.cells #[] 38)).grown hgrow2 (by simp) (fun j e => by have h2 : some wr.heap.size = some j := e; injection h2 with h2; omega)); clear hown2 hgrow2 hP22)
        | (have hR3 := (HR.out.next hb2.out).next (ba w2 (.cells #[.slice A2 (perL o es).length cap2] 22)); have hnew3 : ∀ (j : Nat) z, [Value.slice A2 (perL o es).length cap2][j]? = some z → (w2.alloc (.cells #[.slice A2 (perL o es).length cap2] 22)).cell? ((⟨w2.heap.size, 0, none⟩ : Addr).add j) = some z := World.news_of_block (cs := #[.slice A2 (perL o es).length cap2]) (t := 22) (fr := (0, 0)) (heap_alloc_new w2 _); refine wpList_append_lies _ rfl _ _ 43 rfl w.heap.size 22 i22 _ 1 24 Tryd.underlying43 hi hz0 hz1 hz2 rfl (by decide) (.slice (some ⟨go, 0, none⟩) k co) k vs rfl hR3.out ⟨w2.heap.size, 0, none⟩ 1 1 [.slice A2 (perL o es).length cap2] rfl rfl hnew3 (by intro z hz; rw [List.mem_singleton.1 hz]; rfl) (by decide) (by unfold maxLen; omega) (by omega) hR3.below.size _ rfl ?_; intro go' co' w4 hown4 hgrow4 hq1 hq2; clear hq1 hq2; have HR4 := Lib.hid (HR.out.push HGR2.out HOW2.out hgrow4 hown4); clear hown4 hgrow4 hR3 hnew3))
      have HHN := Lib.hid HR.out.hn
      have HF1 := Lib.hid (HF.out.snoc ⟨es, HK.out, rfl⟩)
      rw [show (es.map fun (x : Nat) => ((x : Int), o)) = perL o es from rfl] at HF1
      generalize Ls ++ [perL o es] = Ls' at *
      generalize vs ++ [Value.slice A2 (perL o es).length cap2] = vs' at *
      have HKD := Lib.hid HK.out.dig
      clear HR HNEWS HE1 HLEN HON HOW2 HGR2 hb2 hc22
      go_loopw [11] (fun i wr => ∃ (q : List Nat) (r : Nat), i = .int .i64 ((q.length : Int) - 1) ∧ es = q ++ List.replicate r m ∧ wr = w4) (fun i _ => (intOf i + 1).toNat)
      case atStart => exact ⟨es, 0, by rw [HHN.out], by simp, rfl⟩
      case round =>
        obtain ⟨q, r, rfl, hes, rfl⟩ := hrel
        have HES := Lib.hid hes
        have hqn : q.length + r = n := by rw [← HHN.out, hes]; simp
        rcases List.eq_nil_or_concat q with hq | ⟨p, x, hq⟩
        · subst hq
          rw [show (([] : List Nat).length : Int) - 1 = -1 from rfl]
          rw [List.nil_append] at hes
          rw [List.length_nil, Nat.zero_add] at hqn
          have HTOP := Lib.hid (show IsK m (k + 1) (List.replicate (n + 1) 0) from by have := HK.out; rw [hes, hqn] at this; exact this.more)
          have hR5 := HR4.out.next (ba wr (.cells #[.int .i64 0, .int .i64 o] 38))
          have hnw5 := news_period wr 0 o 38
          have hop5 := one_period 0 o
          clear hes
          go_wp2_with (at_builtin; refine wpList_append_lies _ rfl _ _ 22 rfl w.heap.size 38 i38 _ 2 16 Tryd.underlying22 hj hy0 hy1 hy2 rfl (by decide) (.slice (some ⟨g, 0, none⟩) n cp) n (flat (perL o es)) rfl hR5.l ⟨wr.heap.size, 0, none⟩ 1 1 [.int .i64 0, .int .i64 o] rfl rfl hnw5 hop5 (by decide) (by unfold maxLen; omega) (by omega) hR5.below.size _ rfl ?_; intro g' cp' w6 hown6 hgrow6 hgg6 hlt6; have HR6 := Lib.hid (HR4.out.more hgrow6 hown6 hgg6); clear hown6 hgrow6 hgg6 hlt6 hR5 hnw5 hop5)
          obtain ⟨a, ha⟩ : ∃ a : List Nat, a = [] := ⟨_, rfl⟩
          obtain ⟨b, hb⟩ : ∃ b : List Nat, b = es ++ [0] := ⟨_, rfl⟩
          have HLN := Lib.hid (show a.length + b.length = n + 1 from by rw [ha, hb, List.length_append, HHN.out]; simp)
          have HRL := Lib.hid (show RA w o go' co' (k + 1) vs' Ls' g' cp' (n + 1) (a ++ (List.replicate 0 0 ++ b.drop 0)) w6 from by rw [ha, hb]; exact HR6.out)
          have HFIN := Lib.hid (show IsK m (k + 1) (a ++ List.replicate b.length 0) from by
            have := HLN.out
            rw [ha, List.length_nil, Nat.zero_add] at this
            rw [ha, this]
            exact HTOP.out)
          have ha0 : a.length = 0 := by rw [ha]; rfl
          have HA0 := Lib.hid ha0
          clear ha hb HR6 HTOP ha0
          go_loopw [12] (fun i wr => ∃ j : Nat, j ≤ b.length ∧ i = .int .i64 ((a.length + j : Nat) : Int) ∧ RA w o go' co' (k + 1) vs' Ls' g' cp' (n + 1) (a ++ (List.replicate j 0 ++ b.drop j)) wr) (fun i _ => (n + 1) - (intOf i).toNat)
          case atStart => exact ⟨0, by omega, by rw [HA0.out]; rfl, HRL.out⟩
          case round =>
            obtain ⟨j, hjb, rfl, R9⟩ := hrel
            have HR9 := Lib.hid R9
            by_cases hjl : j < b.length
            · have hdr : a ++ (List.replicate j 0 ++ b.drop j) = (a ++ List.replicate j 0) ++ b[j] :: b.drop (j + 1) := by rw [List.drop_eq_getElem_cons hjl, List.append_assoc]
              have hpl9 : (a ++ List.replicate j 0).length = a.length + j := by simp
              have c9 := R9.cell (j := a.length + j) (x := ((b[j] : Int), o)) (by rw [hdr]; exact perL_at o hpl9)
              have f9 := R9.frozen ((a.length + j) * 2)
              have hnI9 : ((a.length + j : Nat) : Int) < ((n + 1) : Int) := by have := HLN.out; omega
              have hn09 : (0 : Int) ≤ ((a.length + j : Nat) : Int) := by omega
              have HS9 := Lib.hid (R9.store hdr 0)
              rw [hpl9] at HS9
              have HJ9 := Lib.hid (show a ++ List.replicate j 0 ++ 0 :: b.drop (j + 1) = a ++ (List.replicate (j + 1) 0 ++ b.drop (j + 1)) from by rw [List.replicate_succ']; simp)
              rw [HJ9.out] at HS9
              have hbI : ((a.length + j : Nat) : Int) ≤ 1001 := by omega
              have HAJ := Lib.hid (show a.length + (j + 1) = a.length + j + 1 by omega)
              clear R9 hdr hpl9
              generalize hQ9 : a.length + j = Q9 at *
              go_wp2_with fail
              go_roundw
              case rel => exact ⟨j + 1, hjl, by rw [HAJ.out]; go_num, HS9.out⟩
              case measure => have := HLN.out; simp [intOf]; omega
            · obtain rfl : j = b.length := by omega
              have hnI9 : ¬ ((a.length + b.length : Nat) : Int) < ((n + 1) : Int) := by have := HLN.out; omega
              have HRE := Lib.hid (show RA w o go' co' (k + 1) vs' Ls' g' cp' (n + 1) (a ++ List.replicate b.length 0) _ from by rw [List.drop_length, List.append_nil] at R9; exact R9)
              clear R9 HR9
              go_wp2_with fail
              go_roundw
              case rel => exact ⟨go', co', k + 1, g', cp', (n + 1), vs', Ls', _, by go_num, rfl, HRE.out, HFIN.out, HF1.out, by omega, by omega⟩
              case measure => simp [lenOfV]; omega
        · rw [List.concat_eq_append] at hq
          subst hq
          have hpl : (p ++ [x]).length = p.length + 1 := by simp
          rw [hpl] at hqn ⊢
          have hpI : ((p.length + 1 : Nat) : Int) - 1 = (p.length : Int) := by omega
          rw [hpI]
          have hxl := HR4.out.cell (j := p.length) (x := ((x : Int), o)) (by rw [hes, List.append_assoc, List.singleton_append]; exact perL_at o rfl)
          have hp0 : (0 : Int) ≤ (p.length : Int) := by omega
          have hpn : (p.length : Int) < (n : Int) := by omega
          have hxm : x ≤ m := HKD.out x (by rw [hes]; simp)
          clear hes
          by_cases hxe : x = m
          · have hxI : ((x : Int) == (m : Int)) = true := by rw [hxe]; exact beq_self_eq_true _
            have HX := Lib.hid hxe
            clear hxe
            go_wp2_with fail
            go_roundw
            case rel => exact ⟨p, r + 1, by go_num, by rw [HES.out, HX.out]; simp [List.replicate_succ], trivial⟩
            case measure => simp [intOf]
          · have hxI : ((x : Int) == (m : Int)) = false := by rw [beq_eq_false_iff_ne]; omega
            have hxlt : x < m := by omega
            have hadd : IntKind.i64.wrap ((x : Int) + 1) = (x : Int) + 1 := IntWalk.i64_in _ (by omega)
            have fx := HR4.out.frozen (p.length * 2)
            have hes2 := HES.out
            rw [List.append_assoc, List.singleton_append] at hes2
            have HST := Lib.hid (HR4.out.store hes2 (x + 1))
            have HINC := Lib.hid (show IsK m (k + 1) (p ++ (x + 1) :: List.replicate r 0) from by have := HK.out; rw [hes2] at this; exact this.inc hxlt)
            clear hes2 hxe hxlt
            go_wp2_with fail
            obtain ⟨a, ha⟩ : ∃ a : List Nat, a = p ++ [x + 1] := ⟨_, rfl⟩
            obtain ⟨b, hb⟩ : ∃ b : List Nat, b = List.replicate r m := ⟨_, rfl⟩
            have HLN := Lib.hid (show a.length + b.length = n from by rw [ha, hb, List.length_append, List.length_replicate, List.length_singleton]; omega)
            have HRL := Lib.hid (show RA w o go' co' (k + 1) vs' Ls' g cp n (a ++ (List.replicate 0 0 ++ b.drop 0)) (wr.setCell ⟨g, p.length * 2, none⟩ (.int .i64 ((x + 1 : Nat) : Int))) from by
              rw [ha, hb, List.append_assoc]
              exact HST.out)
            have HFIN := Lib.hid (show IsK m (k + 1) (a ++ List.replicate b.length 0) from by
              rw [ha, hb, List.length_replicate, List.append_assoc]
              exact HINC.out)
            have ha0 : a.length = p.length + 1 := by rw [ha]; simp
            have HA0 := Lib.hid ha0
            clear ha hb HST HINC ha0
            go_loopw [12] (fun i wr => ∃ j : Nat, j ≤ b.length ∧ i = .int .i64 ((a.length + j : Nat) : Int) ∧ RA w o go' co' (k + 1) vs' Ls' g cp n (a ++ (List.replicate j 0 ++ b.drop j)) wr) (fun i _ => n - (intOf i).toNat)
            case atStart => exact ⟨0, by omega, by rw [HA0.out]; go_num, HRL.out⟩
            case round =>
              obtain ⟨j, hjb, rfl, R9⟩ := hrel
              have HR9 := Lib.hid R9
              by_cases hjl : j < b.length
              · have hdr : a ++ (List.replicate j 0 ++ b.drop j) = (a ++ List.replicate j 0) ++ b[j] :: b.drop (j + 1) := by rw [List.drop_eq_getElem_cons hjl, List.append_assoc]
                have hpl9 : (a ++ List.replicate j 0).length = a.length + j := by simp
                have c9 := R9.cell (j := a.length + j) (x := ((b[j] : Int), o)) (by rw [hdr]; exact perL_at o hpl9)
                have f9 := R9.frozen ((a.length + j) * 2)
                have hnI9 : ((a.length + j : Nat) : Int) < (n : Int) := by have := HLN.out; omega
                have hn09 : (0 : Int) ≤ ((a.length + j : Nat) : Int) := by omega
                have HS9 := Lib.hid (R9.store hdr 0)
                rw [hpl9] at HS9
                have HJ9 := Lib.hid (show a ++ List.replicate j 0 ++ 0 :: b.drop (j + 1) = a ++ (List.replicate (j + 1) 0 ++ b.drop (j + 1)) from by rw [List.replicate_succ']; simp)
                rw [HJ9.out] at HS9
                have hbI : ((a.length + j : Nat) : Int) ≤ 1001 := by omega
                have HAJ := Lib.hid (show a.length + (j + 1) = a.length + j + 1 by omega)
                clear R9 hdr hpl9
                generalize hQ9 : a.length + j = Q9 at *
                go_wp2_with fail
                go_roundw
                case rel => exact ⟨j + 1, hjl, by rw [HAJ.out]; go_num, HS9.out⟩
                case measure => have := HLN.out; simp [intOf]; omega
              · obtain rfl : j = b.length := by omega
                have hnI9 : ¬ ((a.length + b.length : Nat) : Int) < (n : Int) := by have := HLN.out; omega
                have HRE := Lib.hid (show RA w o go' co' (k + 1) vs' Ls' g cp n (a ++ List.replicate b.length 0) _ from by rw [List.drop_length, List.append_nil] at R9; exact R9)
                clear R9 HR9
                go_wp2_with fail
                go_roundw
                case rel => exact ⟨go', co', k + 1, g, cp, n, vs', Ls', _, by go_num, rfl, HRE.out, HFIN.out, HF1.out, by omega, by omega⟩
                case measure => simp [lenOfV]; omega
    · have HKE := Lib.hid (show min lim (totalN f m) = k from by
        unfold totalN at *
        by_cases h1 : n ≤ f
        · have := hlen.1 h1; have : ¬ k < lim := fun h => hc ⟨h1, h⟩; omega
        · have : ¬ k < offN (m + 1) (f + 1) := fun h => h1 (hlen.2 h); omega)
      clear R hK hF hlen
      by_cases h1 : n ≤ f
      · have h1I : (n : Int) ≤ (f : Int) := by omega
        have h2I : ¬ (k : Int) < (lim : Int) := by have : ¬ k < lim := fun h => hc ⟨h1, h⟩; omega
        clear hc
        go_wp2_with fail
        go_ret
        obtain ⟨A, cap, hA, hR⟩ := Rws.of_own HR.out.out HR.out.fin
        cases hA
        exact ⟨_, _, Ls, rfl, hR, by rw [HKE.out]; exact HF.out, HR.out.below⟩
      · have h1I : ¬ (n : Int) ≤ (f : Int) := by omega
        clear hc
        go_wp2_with fail
        go_ret
        obtain ⟨A, cap, hA, hR⟩ := Rws.of_own HR.out.out HR.out.fin
        cases hA
        exact ⟨_, _, Ls, rfl, hR, by rw [HKE.out]; exact HF.out, HR.out.below⟩
set_option maxRecDepth 100000 in
set_option maxHeartbeats 2000000 in
theorem rall_no (f m o lim : Int) (hbad : okA f m o = false) (w : World) : Calls Tryd.prog 25 #[.int .i64 f, .int .i64 m, .int .i64 o, .int .i64 lim] w (RallP w 0 m.toNat o) := by
  have HQ := Lib.hid (show RallP w 0 m.toNat o (.returned (.slice (some ⟨w.heap.size, 0, none⟩) 0 0)) (w.alloc (.cells #[] 22)) from ⟨_, _, [], rfl, ⟨fun j r h => by simp at h⟩, FirstL.nil _ _, ba w _⟩)
  unfold okA at hbad
  rw [decide_eq_false_iff_not] at hbad
  by_cases h1 : f < 0
  · clear hbad
    go_enter Tryd.func25, Tryd.ntmps25
    go_wp2_with fail
    go_ret
    exact HQ.out
  · by_cases h2 : m < 0
    · clear hbad
      go_enter Tryd.func25, Tryd.ntmps25
      go_wp2_with fail
      go_ret
      exact HQ.out
    · by_cases h3 : 1073741824 < m
      · clear hbad
        go_enter Tryd.func25, Tryd.ntmps25
        go_wp2_with fail
        go_ret
        exact HQ.out
      · by_cases h4 : o < 1
        · clear hbad
          go_enter Tryd.func25, Tryd.ntmps25
          go_wp2_with fail
          go_ret
          exact HQ.out
        · have h5 : 1099511627776 < o := by omega
          clear hbad
          go_enter Tryd.func25, Tryd.ntmps25
          go_wp2_with fail
          go_ret
          exact HQ.out
/-- the reference's All, whatever its arguments -/
theorem rall_any (f m o : Int) (lim : Nat) (hf : f ≤ 200) (hl2 : lim ≤ 1000) (w : World) : Calls Tryd.prog 25 #[.int .i64 f, .int .i64 m, .int .i64 o, .int .i64 lim] w (RallP w (outN f m o lim) m.toNat o) := by
  cases h : okA f m o with
  | false =>
    unfold outN
    rw [h, if_neg (by decide)]
    exact rall_no f m o lim h w
  | true =>
    have h0 := h
    unfold okA at h0
    rw [decide_eq_true_iff] at h0
    obtain ⟨f, rfl⟩ := Int.eq_ofNat_of_zero_le h0.1
    obtain ⟨m, rfl⟩ := Int.eq_ofNat_of_zero_le h0.2.1.1
    unfold outN
    rw [h, if_pos rfl]
    exact rall_c f m o lim (by omega) hl2 h w
end Go.Proofs.YtabfjiapoafgaaaDoor
