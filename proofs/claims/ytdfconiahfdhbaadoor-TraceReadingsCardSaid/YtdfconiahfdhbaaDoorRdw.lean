/-
  Readings, by trace.
-/
import Derived.Test.YtdfconiahfdhbaaDoorRdj
import Derived.Test.YtdfconiahfdhbaaDoorAtw
import Derived.Test.YtdfconiahfdhbaaDoorPrs
import Derived.Test.YtdfconiahfdhbaaDoorWat
import Derived.Test.YtdfconiahfdhbaaDoorRdr
import Derived.RegionIn
import Derived.Sort.CutIn
import Derived.RangeFuncBox
namespace Go.Proofs.YtdfconiahfdhbaaDoor
open Go.RowKit Go.Shelf
attribute [local go_sem] Oper.semAt_some

theorem kindS_c (A : Option Addr) (len cap : Nat) (k : Int) (w : World) : Calls Tryd.prog 18 #[.slice A len cap, .int .i64 k] w fun e w' => e = .returned (.func (.func 40) #[] #[.pointer (some ⟨w.heap.size, 0, none⟩), .pointer (some ⟨w.heap.size + 1, 0, none⟩)]) ∧ w' = (w.alloc (.cells #[.slice A len cap] 22)).alloc (.cells #[.int .i64 k] 3) := by
  go_enter Tryd.func18, Tryd.ntmps18
  go_wp2_with fail
  go_ret
  exact ⟨by simp, rfl⟩
set_option maxRecDepth 100000 in
set_option maxHeartbeats 4000000 in
theorem readings_c (l : List Ev) (hl : l.length ≤ 80) (A : Option Addr) (cap : Nat) (hcap : l.length ≤ cap) (w : World) (C : Evs w A l) : Calls Tryd.prog 22 #[.slice A l.length cap] w (GivesR (rows l (atsL l 0) l.length) w) := by
  obtain ⟨i51, hti, hz0, hz1, hz2⟩ := info_parts info51
  obtain ⟨i53, gti, gz0, gz1, gz2⟩ := info_parts info53
  have HC := Lib.hid C
  have hl3 : (l.length : Int) ≤ 80 := by omega
  clear C
  refine (callsIn_wide (n := 3)).1 ?_
  refine callsIn_of_wp_marks Tryd.func22 rfl trivial ?_ rfl
  simp only [Tryd.ntmps22, List.size_toArray, List.length_cons, List.length_nil, Nat.reduceAdd, Nat.reduceSub, Array.replicate_succ, Array.replicate_zero, List.push_toArray, List.append_toArray, List.nil_append, List.cons_append]
  have hb0 := bt (ba w (.cells #[.slice A l.length cap] 22)) (ba _ (.cells #[.slice none 0 0] 49))
  have HB0 := Lib.hid hb0
  clear hb0
  gi_wp2_with fail
  refine ⟨trivial, ?_⟩
  gi_at_call 20
  refine (callsIn_wide.2 (attempts_c l hl A cap _ (HC.out.next HB0.out))).mono ?_
  rintro e w1 ⟨A2, cap2, rfl, C2, hb1, hnew⟩
  obtain ⟨hc1, hf1⟩ := bcell hb1
  have hzw1 : w.heap.size + 2 ≤ w1.heap.size := by have := hb1.size; simp at this; omega
  have a0 : w1.cell? ⟨w.heap.size, 0, none⟩ = some (.slice A l.length cap) := by
    rw [hc1 _ _ (by simp only [World.size_alloc]; omega)]
    go_simp
  have hs0 : w.heap.size < w1.heap.size := by omega
  have hs1 : w.heap.size + 1 < w1.heap.size := by omega
  have HB1 := Lib.hid (bt HB0.out hb1)
  gi_wp2_with fail
  refine ⟨trivial, ?_⟩
  gi_at_call 18
  refine (callsIn_wide.2 (kindS_c A l.length cap 3 _)).mono ?_
  rintro e w2 ⟨rfl, rfl⟩
  gi_wp2_with fail
  simp only [Nat.add_assoc, Nat.reduceAdd]
  have hal := atsL_len l
  have HIN := Lib.hid (ats_in (l := l) l.length 0 (by omega))
  generalize atsL l 0 = a at *
  have ha80 : (a.length : Int) ≤ 80 := by omega
  have c : RC w (w1.heap.size + 3) w.heap.size (w.heap.size + 1) w1.heap.size (w1.heap.size + 2) A2 a := by
    refine ⟨by omega, by omega, by omega, by omega, by omega, by omega, by omega, by omega, by omega, fun z ad e => ?_⟩
    subst e
    have h1 := hnew ad rfl
    simp only [World.size_alloc] at h1
    obtain ⟨x, xs, rfl⟩ := List.exists_cons_of_ne_nil z
    obtain ⟨ad', q, h2⟩ := C2.at_ 0 x rfl
    cases q
    have h3 := h2.lt
    rw [Nat.zero_mul, Addr.add_zero'] at h3
    omega
  have hbx := bt (bt (ba w1 (.cells #[.slice A2 a.length cap2] 42)) (ba _ (.cells #[.slice A l.length cap] 22))) (ba _ (.cells #[.int .i64 3] 3))
  have J0 : RJ w (w1.heap.size + 3) w.heap.size (w.heap.size + 1) w1.heap.size (w1.heap.size + 2) A l.length cap A2 cap2 a (.slice none 0 0) [] (rows l a 0) (((w1.alloc (.cells #[.slice A2 a.length cap2] 42)).alloc (.cells #[.slice A l.length cap] 22)).alloc (.cells #[.int .i64 3] 3)) := by
    refine ⟨bt HB1.out hbx, by simp, ((bcell hbx).1 _ _ hs0).trans a0, ((bcell hbx).1 _ _ hs1).trans ?_, ((bcell hbx).2 _ _ hs1).trans ?_, ?_, ?_, World.ownsRow_nil _ _ _ _, Fin2.nil _ _ _, C2.next hbx⟩
    · rw [hc1 _ _ (by simp only [World.size_alloc]; omega)]
      go_simp
    · rw [hf1 _ _ (by simp only [World.size_alloc]; omega)]
      go_simp
    · go_simp
    · go_simp
  have hKB : (((w1.alloc (.cells #[.slice A2 a.length cap2] 42)).alloc (.cells #[.slice A l.length cap] 22)).alloc (.cells #[.int .i64 3] 3)).cell? ⟨w1.heap.size + 1, 0, none⟩ = some (.slice A l.length cap) := by go_simp
  have hsz : (((w1.alloc (.cells #[.slice A2 a.length cap2] 42)).alloc (.cells #[.slice A l.length cap] 22)).alloc (.cells #[.int .i64 3] 3)).heap.size = w1.heap.size + 3 := by simp
  clear hbx a0 hc1 hf1 hb1 hnew
  generalize ((w1.alloc (.cells #[.slice A2 a.length cap2] 42)).alloc (.cells #[.slice A l.length cap] 22)).alloc (.cells #[.int .i64 3] 3) = W0 at *
  refine range_assign (σ := Nat × Ev) rfl (by omega) (gf := 40) (lb := #[.pointer (some ⟨w1.heap.size + 1, 0, none⟩), .pointer (some ⟨w1.heap.size + 2, 0, none⟩)]) rfl trivial (enters_of Tryd.func40 (by kernel_rfl) rfl) (fun σ => #[.int .i64 (σ.1 : Int), .agg #[.int .i64 σ.2.kind, .int .i64 σ.2.time, .int .i64 σ.2.task, .int .i64 σ.2.n, .int .i16 σ.2.value, .int .i64 σ.2.port]]) (fun _ => rfl)
    (fun σ W => (l[σ.1]? = some σ.2 ∧ σ.2.kind = 3) ∧ ∃ v vs, RJ w (w1.heap.size + 3) w.heap.size (w.heap.size + 1) w1.heap.size (w1.heap.size + 2) A l.length cap A2 cap2 a v vs (rows l a σ.1) W)
    (fun σ W => ∃ v vs, RJ w (w1.heap.size + 3) w.heap.size (w.heap.size + 1) w1.heap.size (w1.heap.size + 2) A l.length cap A2 cap2 a v vs (rows l a (σ.1 + 1)) W)
    (fun _ _ => False) (fun W => ∃ v vs, RJ w (w1.heap.size + 3) w.heap.size (w.heap.size + 1) w1.heap.size (w1.heap.size + 2) A l.length cap A2 cap2 a v vs (rows l a l.length) W)
    (fun σ W W' ht h => by rw [hsz] at ht; obtain ⟨h1, v, vs, h2⟩ := h; exact ⟨h1, v, vs, h2.turn c ht⟩)
    (fun σ W W' ht h => by rw [hsz] at ht; obtain ⟨v, vs, h2⟩ := h; exact ⟨v, vs, h2.turn c ht⟩)
    (fun _ W W' ht h => h)
    (fun W W' ht h => by rw [hsz] at ht; obtain ⟨v, vs, h2⟩ := h; exact ⟨v, vs, h2.turn c ht⟩)
    (fun σ W => { tmps := #[.slice A l.length cap, .pointer (some ⟨w.heap.size, 0, none⟩), .slice none 0 0, .pointer (some ⟨w.heap.size + 1, 0, none⟩), .pointer (some ⟨w1.heap.size, 0, none⟩), .int .i64 (σ.1 : Int), .pointer (some ⟨W.heap.size, 0, none⟩), undef, undef, undef, undef, undef, undef, .slice A l.length cap, .slice A2 a.length cap2, .slice A l.length cap, .func (.func 40) #[] #[.pointer (some ⟨w1.heap.size + 1, 0, none⟩), .pointer (some ⟨w1.heap.size + 2, 0, none⟩)], .int .i64 (σ.1 : Int), .agg #[.int .i64 σ.2.kind, .int .i64 σ.2.time, .int .i64 σ.2.task, .int .i64 σ.2.n, .int .i16 σ.2.value, .int .i64 σ.2.port], undef, undef, undef, undef, undef, undef, undef, undef, undef, undef, undef, undef, undef, undef, undef, undef, undef, undef, undef, undef, undef, undef, undef, undef, undef, undef, undef, undef, undef, undef, undef, undef, undef, undef, undef, undef, undef, undef, undef, undef, undef, undef, undef, undef, undef, undef, undef, undef, undef, undef, undef, undef, undef, undef, undef, undef, undef, undef, undef, undef, undef, undef, undef, undef, undef, undef, undef, undef, undef, undef, undef, undef, undef, undef, undef, undef, undef], defers := [] })
    (fun σ W => W.alloc (.cells #[.int .i64 σ.2.kind, .int .i64 σ.2.time, .int .i64 σ.2.task, .int .i64 σ.2.n, .int .i16 σ.2.value, .int .i64 σ.2.port] 26)) (fun σ W => ba W _) ?assign ?body ?iter ?done ?stop
  case assign =>
    intro l' σ W K hK
    gi_wp2
    exact hK
  case iter =>
    intro L D rr W1 Lv ht hR hY
    rw [hsz] at ht
    refine (iter40 (by omega) L (w1.heap.size + 1) (w1.heap.size + 2) l hl A cap 3 (fun j W => (∃ v vs, RJ w (w1.heap.size + 3) w.heap.size (w.heap.size + 1) w1.heap.size (w1.heap.size + 2) A l.length cap A2 cap2 a v vs (rows l a j) W) ∧ Rec L D rr W) Lv ?_ ?_ ?_ ?_ W1 ⟨⟨_, _, J0.turn c ht⟩, hR⟩ (ht.cell hKB)).mono ?_
    · rintro j W ⟨⟨v, vs, J⟩, -⟩
      exact ⟨HC.out.next J.below, J.kd, by have := J.sz; omega⟩
    · rintro j W W' ⟨⟨v, vs, J⟩, hr⟩ hb
      exact ⟨⟨v, vs, J.next c hb⟩, hr.same (keeps_below hb)⟩
    · rintro j e W he hk ⟨⟨v, vs, J⟩, hr⟩
      exact ⟨⟨v, vs, by rw [show rows l a (j + 1) = rows l a j from by unfold rows; rw [begs_no he hk]]; exact J⟩, hr⟩
    · rintro j e W he hk ⟨hJ, hr⟩
      exact (hY (j, e) W ⟨⟨he, hk⟩, hJ⟩ hr).mono fun r W' h => by
        rcases h with ⟨h1, h2, h3⟩ | ⟨h1, h2⟩
        · exact .inl ⟨h1, h2, h3⟩
        · exact .inr ⟨h1, h2⟩
    · rintro r W' ⟨he, h | h⟩
      · exact ⟨he, .inl ⟨h.1, h.2⟩⟩
      · exact ⟨he, .inr h⟩
  case done =>
    rintro D W hD ⟨v, vs, J⟩ hK
    have HJ := Lib.hid J
    have HK := Lib.hid hK
    have o0 := J.out
    clear J hK
    gi_wp2
    refine ⟨by simp, .inl ⟨_, _, rfl, run_takeDeferred HK.out, ?_⟩⟩
    have ht := Turn.putObj (.deferred none) (show w1.heap.size + 3 ≤ D by rw [hsz] at hD; exact hD) HK.out rfl
    have J2 := HJ.out.turn c ht
    generalize W.putObj D (.deferred none) = W6 at *
    obtain ⟨A', cap', rfl, C'⟩ := Rws.of_own J2.own J2.fin
    exact ⟨.slice A' (rows l a l.length).length cap', by simp [results, Tryd.results22, go_sem], A', cap', rfl, C', J2.below⟩
  case stop => exact fun D c W hD h hK => h.elim
  case body =>
    rintro l' ⟨j, e⟩ W0' W ⟨⟨hje, hk3⟩, v, vs, J⟩ hsz0 ht
    rw [hsz] at ht
    simp only at hje hk3 J
    have hEX := EX.start W0' e 26
    have hKJ := Lib.hid ((J.next c (ba W0' (.cells #[.int .i64 e.kind, .int .i64 e.time, .int .i64 e.task, .int .i64 e.n, .int .i16 e.value, .int .i64 e.port] 26))).turn c ht)
    have b0 := ht.cell hEX.c0
    have b1 := ht.cell hEX.c1
    have b2 := ht.cell hEX.c2
    have b3 := ht.cell hEX.c3
    have b4 := ht.cell hEX.c4
    have b5 := ht.cell hEX.c5
    have hj := (List.getElem?_eq_some_iff.1 hje).1
    obtain ⟨ad, rfl, -⟩ := HC.out.at_ j e hje
    have HROW := Lib.hid (show rows l a (j + 1) = rows l a j ++ [useL l a j (runTo l j)] from by unfold rows; rw [begs_yes hje hk3, List.map_append]; rfl)
    have hjI : (j : Int) < 80 := by omega
    clear hEX J hje hk3 J0 hKB hsz0 ht
    generalize W0'.heap.size = XB at *
    gi_wp2
    gi_loopw [7] (fun s7 Wr => ∃ m : Nat, j ≤ m ∧ m + 1 ≤ l.length ∧ s7 = .int .i64 ((m : Int) + 1) ∧ (∀ q, j + 1 ≤ q → q < m + 1 → contE l q = true) ∧ KeepsOthers W Wr ∧ RJ w (w1.heap.size + 3) w.heap.size (w.heap.size + 1) w1.heap.size (w1.heap.size + 2) (some ad) l.length cap A2 cap2 a v vs (rows l a j) Wr) (fun s7 _ => l.length - (intOf s7).toNat)
    case atStart => exact ⟨j, by omega, by omega, rfl, fun q h1 h2 => by omega, KeepsOthers.refl W, hKJ.out⟩
    case round =>
      obtain ⟨m, hjm, hml, rfl, hon, K0, J⟩ := hrel
      have HON := Lib.hid hon
      have hmI : (m : Int) + 1 ≤ (l.length : Int) := by omega
      have j1 := J.ev
      have j2 := J.att
      have hjs := J.sz
      have hl1 : w.heap.size < wr.heap.size := by omega
      clear hon
      by_cases hlt : m + 1 < l.length
      · have hltI : (m : Int) + 1 < (l.length : Int) := by omega
        have HE1 := Lib.hid (List.getElem?_eq_getElem hlt)
        have HE2 := Lib.hid (List.getElem?_eq_getElem (show m < l.length from by omega))
        obtain ⟨ad', q, EA⟩ := (HC.out.next J.below).at_ (m + 1) _ HE1.out
        cases q
        obtain ⟨ad', q, EB⟩ := (HC.out.next J.below).at_ m _ HE2.out
        cases q
        generalize l[m + 1] = e1 at *
        generalize l[m] = e2 at *
        have HCN := Lib.hid (cont_at HE1.out (show l[m + 1 - 1]? = some e2 from by rw [Nat.add_sub_cancel]; exact HE2.out))
        obtain ⟨_, c0, c1, c2, c3, c4, c5⟩ := EA
        obtain ⟨_, d0, d1, d2, d3, d4, d5⟩ := EB
        have HK0 := Lib.hid K0
        have HJ := Lib.hid J
        clear K0 J
        by_cases h3 : e1.kind = 3
        · have HRT := Lib.hid (show m + 1 = runTo l j from run_uniq ⟨by omega, HON.out, by rw [HCN.out]; simp [h3]⟩)
          have q1 : (e1.kind == 3) = true := by simpa using h3
          have q2 : (e1.kind != 3) = false := by simpa using h3
          clear h3
          gi_wp2
          have HB0' := Lib.hid (Nat.le_refl wr.heap.size)
          have HF0 := Lib.hid HJ.out.fin
          have HBS := Lib.hid HJ.out.sz
          obtain ⟨B, hB⟩ : ∃ B, B = wr.heap.size := ⟨_, rfl⟩
          rw [← hB] at HF0 HBS
          have HBe := Lib.hid (Nat.le_of_eq hB)
          clear hB
          gi_loopw [8, 47] (fun s8 s47 W2 => ∃ (q : Nat) (ul : List Rd), q ≤ a.length ∧ s47 = .int .i64 q ∧ ul = (a.take q).flatMap (use1 l j (m + 1)) ∧ KeepsOthers W W2 ∧ RJ w (w1.heap.size + 3) w.heap.size (w.heap.size + 1) w1.heap.size (w1.heap.size + 2) (some ad) l.length cap A2 cap2 a v vs (rows l a j) W2 ∧ B ≤ W2.heap.size ∧ W2.ownsRow B 53 2 s8 ul.length (flatD ul) ∧ Fin2 (w1.heap.size + 3) vs (rows l a j) B W2) (fun _ s47 _ => a.length - (intOf s47).toNat)
          case atStart => exact ⟨0, [], by omega, rfl, rfl, HK0.out, HJ.out, HBe.out, World.ownsRow_nil _ _ _ _, HF0.out⟩
          case round =>
            obtain ⟨q, ul, hq, rfl, hul, K, J, hB, hown, F⟩ := hrel
            by_cases hlt2 : q < a.length
            · have hx := List.getElem?_eq_getElem hlt2
              have HTF := Lib.hid (take_flat (use1 l j (m + 1)) hx)
              have hxi := HIN.out _ (List.getElem_mem hlt2)
              have hql := flat_le (use1 l j (m + 1)) l.length (a.take q) (fun y hy => use1_len HIN.out j (m + 1) y (List.mem_of_mem_take hy))
              rw [← hul] at hql
              have hqa : (a.take q).length * l.length ≤ 80 * 80 := Nat.mul_le_mul (by rw [List.length_take]; omega) hl
              have hulI : ul.length ≤ 6400 := by omega
              obtain ⟨ad2, rfl, E2⟩ := J.atts.at_ q _ hx
              have HXI := Lib.hid hxi
              generalize a[q] = x at *
              obtain ⟨xf, xt, xk, xc⟩ := x
              simp only at hxi E2
              obtain ⟨hxi1, hxi2⟩ := hxi
              have HUL := Lib.hid hul
              have HKN := Lib.hid (K.trans (KeepsOthers.alloc wr (.cells #[.int .i64 xf, .int .i64 xt, .int .i64 xk, .bool xc] 48)))
              have HJN := Lib.hid (J.next c (ba wr (.cells #[.int .i64 xf, .int .i64 xt, .int .i64 xk, .bool xc] 48)))
              have HBN := Lib.hid (Nat.le_trans hB (ba wr (.cells #[.int .i64 xf, .int .i64 xt, .int .i64 xk, .bool xc] 48)).size)
              have HOW := Lib.hid (owns_below hown (ba wr (.cells #[.int .i64 xf, .int .i64 xt, .int .i64 xk, .bool xc] 48)))
              have HFB := Lib.hid (F.next (ba wr (.cells #[.int .i64 xf, .int .i64 xt, .int .i64 xk, .bool xc] 48)))
              have r1 := J.ev
              have hjs2 := J.sz
              have hl2 : w.heap.size < wr.heap.size := by omega
              obtain ⟨_, g0, g1, g2, g3⟩ := E2
              clear hx hul hql hqa K J hB hown F
              cases xc
              · have HU1 := Lib.hid (show use1 l j (m + 1) ⟨xf, xt, xk, false⟩ = [] from by unfold use1; simp)
                gi_wp2
                go_roundw
                case rel => exact ⟨q + 1, ul, by omega, by go_num, by rw [HTF.out, HU1.out, List.append_nil]; exact HUL.out, HKN.out, HJN.out, HBN.out, HOW.out, HFB.out⟩
                case measure => simp [intOf]; omega
              · by_cases hxj : xt < j
                · have HU1 := Lib.hid (show use1 l j (m + 1) ⟨xf, xt, xk, true⟩ = [] from by unfold use1; simp [show ¬ j ≤ xt from by omega])
                  have z1 : decide (xt < j) = true := by simpa using hxj
                  have z2 : (xt : Int) < (j : Int) := by omega
                  gi_wp2
                  go_roundw
                  case rel => exact ⟨q + 1, ul, by omega, by go_num, by rw [HTF.out, HU1.out, List.append_nil]; exact HUL.out, HKN.out, HJN.out, HBN.out, HOW.out, HFB.out⟩
                  case measure => simp [intOf]; omega
                · have z1 : decide (xt < j) = false := by simpa using hxj
                  have z2 : ¬ (xt : Int) < (j : Int) := by omega
                  by_cases hxm : m + 1 ≤ xt
                  · have HU1 := Lib.hid (show use1 l j (m + 1) ⟨xf, xt, xk, true⟩ = [] from by unfold use1; simp [show ¬ xt < m + 1 from by omega])
                    have z3 : (m : Int) + 1 ≤ (xt : Int) := by omega
                    rcases Nat.lt_or_ge (m + 1) l.length with hz | hz
                    · try (exfalso; omega)
                      all_goals
                        clear hz
                        gi_wp2
                        go_roundw
                        case rel => exact ⟨q + 1, ul, by omega, by go_num, by rw [HTF.out, HU1.out, List.append_nil]; exact HUL.out, HKN.out, HJN.out, HBN.out, HOW.out, HFB.out⟩
                        case measure => simp [intOf]; omega
                    · exfalso; omega
                  · have HU1 := Lib.hid (show use1 l j (m + 1) ⟨xf, xt, xk, true⟩ = rdR l xf (xt + 1 - xf) from by unfold use1; simp [show j ≤ xt from by omega, show xt < m + 1 from by omega]; rfl)
                    have z3 : ¬ (m : Int) + 1 ≤ (xt : Int) := by omega
                    gi_wp2
                    have hd1 : xt + 1 - xf ≤ 80 := by omega
                    have hd2 : xf + (xt + 1 - xf) ≤ l.length := by omega
                    generalize xt + 1 - xf = d at *
                    have hdI : (d : Int) ≤ 80 := by omega
                    gi_loopw [8, 74] (fun s8 s74 W3 => ∃ k : Nat, k ≤ d ∧ s74 = .int .i64 k ∧ KeepsOthers W W3 ∧ RJ w (w1.heap.size + 3) w.heap.size (w.heap.size + 1) w1.heap.size (w1.heap.size + 2) (some ad) l.length cap (some ad2) cap2 a v vs (rows l a j) W3 ∧ B ≤ W3.heap.size ∧ W3.ownsRow B 53 2 s8 (ul ++ rdR l xf k).length (flatD (ul ++ rdR l xf k)) ∧ Fin2 (w1.heap.size + 3) vs (rows l a j) B W3) (fun _ s74 _ => d - (intOf s74).toNat)
                    case atStart => exact ⟨0, by omega, rfl, HKN.out, HJN.out, HBN.out, by simpa [rdR] using HOW.out, HFB.out⟩
                    case round =>
                      obtain ⟨k, hk, rfl, K, J, hB, hown, F⟩ := hrel
                      by_cases hlt3 : k < d
                      · have HE3 := Lib.hid (List.getElem?_eq_getElem (show xf + k < l.length from by omega))
                        obtain ⟨ad', qq, EK⟩ := (HC.out.next J.below).at_ (xf + k) _ HE3.out
                        cases qq
                        generalize l[xf + k] = y at *
                        have HRS := Lib.hid (rdR_succ (i := xf) (d := k) HE3.out)
                        have hadd : (ad.add (xf * 6)).add (k * 6) = ad.add ((xf + k) * 6) := by rw [Go.Deep.add_add, ← Nat.add_mul]
                        rw [← hadd] at EK
                        obtain ⟨_, y0, y1, y2, y3, y4, y5⟩ := EK
                        have hrk := rdR_len l xf k
                        have hRL : (ul ++ rdR l xf k).length ≤ 7000 := by rw [List.length_append]; omega
                        have hB1 := Nat.le_trans hB (ba wr (.cells #[.int .i64 y.kind, .int .i64 y.time, .int .i64 y.task, .int .i64 y.n, .int .i16 y.value, .int .i64 y.port] 26)).size
                        have HK1 := Lib.hid (K.trans (KeepsOthers.alloc wr (.cells #[.int .i64 y.kind, .int .i64 y.time, .int .i64 y.task, .int .i64 y.n, .int .i16 y.value, .int .i64 y.port] 26)))
                        have HJ1 := Lib.hid (J.next c (ba wr (.cells #[.int .i64 y.kind, .int .i64 y.time, .int .i64 y.task, .int .i64 y.n, .int .i16 y.value, .int .i64 y.port] 26)))
                        have HO1 := Lib.hid (owns_below hown (ba wr (.cells #[.int .i64 y.kind, .int .i64 y.time, .int .i64 y.task, .int .i64 y.n, .int .i16 y.value, .int .i64 y.port] 26)))
                        have HF1 := Lib.hid (F.next (ba wr (.cells #[.int .i64 y.kind, .int .i64 y.time, .int .i64 y.task, .int .i64 y.n, .int .i16 y.value, .int .i64 y.port] 26)))
                        have HB1 := Lib.hid hB1
                        have HJS := Lib.hid J.sz
                        clear K J F hB1 hadd hrk
                        by_cases hy4 : y.kind = 4
                        · have HR := Lib.hid (show (ul ++ rdR l xf k) ++ [(y.port, y.value)] = ul ++ rdR l xf (k + 1) from by rw [HRS.out, List.append_assoc]; unfold rdE; rw [if_pos hy4])
                          have z7 : (y.kind == 4) = true := by simpa using hy4
                          have hn0 := news_rd (wr.alloc (.cells #[.int .i64 y.kind, .int .i64 y.time, .int .i64 y.task, .int .i64 y.n, .int .i16 y.value, .int .i64 y.port] 26)) (y.port, y.value) 53
                          rw [World.size_alloc] at hn0
                          have HN0 := Lib.hid hn0
                          clear hy4 HRS hn0
                          generalize ul ++ rdR l xf k = R at *
                          have HK2 := Lib.hid (HK1.out.trans (KeepsOthers.alloc _ (.cells #[.int .i64 y.port, .int .i16 y.value] 53)))
                          have HJ2 := Lib.hid (HJ1.out.next c (ba _ (.cells #[.int .i64 y.port, .int .i16 y.value] 53)))
                          have HO2 := Lib.hid (owns_below HO1.out (ba _ (.cells #[.int .i64 y.port, .int .i16 y.value] 53)))
                          have HF2 := Lib.hid (HF1.out.next (ba _ (.cells #[.int .i64 y.port, .int .i16 y.value] 53)))
                          have HB2 := Lib.hid (Nat.le_trans HB1.out (ba _ (.cells #[.int .i64 y.port, .int .i16 y.value] 53)).size)
                          have hBl := HB1.out
                          simp only [World.size_alloc] at hBl
                          gi_wp2_with (gi_at_builtin; refine wpListIn_append_own _ rfl (.tmp 81) (.tmp 87) 51 rfl B 53 i53 _ 2 16 Tryd.underlying51 gti gz0 gz1 gz2 rfl (by decide) _ R.length (flatD R) rfl ((hown.alloc _).alloc _) ⟨wr.heap.size + 1, 0, none⟩ 1 1 (cellsD (y.port, y.value)) rfl rfl HN0.out (one_rd _) (by unfold maxLen; omega) (by omega) (by simp; omega) ?_; intro v' w5 hown1 hgrow hnil)
                          have HK3 := Lib.hid (HK2.out.trans (keeps_grow HO2.out hgrow))
                          have HJ3 := Lib.hid (HJ2.out.grown c hgrow (fun g e => Nat.le_trans HBS.out (HO2.out.lt g e).1) (fun g e => owns_ne HJ2.out.own HO2.out (by decide) e) (fun x hx g e q => by have h1 := HF2.out.lt x hx g e; have h2 := (HO2.out.lt g q).1; omega))
                          have HF3 := Lib.hid (HF2.out.grown hgrow (fun x hx g e q => by have h1 := HF2.out.lt x hx g e; have h2 := (HO2.out.lt g q).1; omega))
                          have HB3 := Lib.hid (Nat.le_trans HB2.out hgrow.size)
                          have HO3 := Lib.hid (show w5.ownsRow B 53 2 v' (ul ++ rdR l xf (k + 1)).length (flatD (ul ++ rdR l xf (k + 1))) from by rw [← HR.out, flatD_snoc, List.length_append, List.length_singleton]; exact hown1)
                          clear hown1 hgrow hnil hown hBl
                          gi_wp2
                          go_roundw
                          case rel => exact ⟨k + 1, by omega, by go_num, HK3.out, HJ3.out, HB3.out, HO3.out, HF3.out⟩
                          case measure => simp [intOf]; omega
                        · have HR := Lib.hid (show ul ++ rdR l xf k = ul ++ rdR l xf (k + 1) from by rw [HRS.out]; unfold rdE; rw [if_neg hy4, List.append_nil])
                          have z7 : (y.kind == 4) = false := by simpa using hy4
                          clear hy4 HRS
                          gi_wp2
                          go_roundw
                          case rel => exact ⟨k + 1, by omega, by go_num, HK1.out, HJ1.out, HB1.out, by rw [← HR.out]; exact HO1.out, HF1.out⟩
                          case measure => simp [intOf]; omega
                      · obtain rfl : k = d := by omega
                        have HK9 := Lib.hid K
                        have HJ9 := Lib.hid J
                        have HF9 := Lib.hid F
                        have HO9 := Lib.hid hown
                        have HB9 := Lib.hid hB
                        clear K J F hown hB
                        gi_wp2
                        go_roundw
                        case rel => exact ⟨q + 1, ul ++ rdR l xf k, by omega, by go_num, by rw [HTF.out, HU1.out, HUL.out], HK9.out, HJ9.out, HB9.out, HO9.out, HF9.out⟩
                        case measure => simp [intOf]; omega
            · obtain rfl : q = a.length := by omega
              rw [List.take_length] at hul
              have HROW2 := Lib.hid (show rows l a (j + 1) = rows l a j ++ [ul] from by rw [HROW.out, hul, ← HRT.out]; rfl)
              obtain ⟨Au, cu, rfl, -⟩ := Rds.of_own hown
              have hvl : vs.length ≤ 80 := by
                have h1 := J.fin.len
                have h2 := begs_len l j
                unfold rows at h1
                rw [List.length_map] at h1
                omega
              have HK1 := Lib.hid (K.trans (KeepsOthers.alloc wr (.cells #[.slice Au ul.length cu] 51)))
              have HJ1 := Lib.hid (J.next c (ba wr (.cells #[.slice Au ul.length cu] 51)))
              have HO1 := Lib.hid (owns_mono (owns_below hown (ba wr (.cells #[.slice Au ul.length cu] 51))) HBS.out)
              have hownv := J.own
              have o0 := J.out
              have o1 := J.fo
              have hjz := J.sz
              have hBO : w.heap.size + 1 < wr.heap.size := by omega
              have hne : v.ownBlock ≠ some (w.heap.size + 1) := fun e => by have := (hownv.lt _ e).1; omega
              have p0 := HJ1.out.out
              have p1 := HJ1.out.fo
              clear hul hown K J F hB
              gi_wp2_with (gi_at_builtin; refine wpListIn_append_own _ rfl (.tmp 91) (.tmp 93) 49 rfl (w1.heap.size + 3) 51 i51 _ 1 24 Tryd.underlying49 hti hz0 hz1 hz2 rfl (by decide) v vs.length vs rfl (hownv.alloc _) ⟨wr.heap.size, 0, none⟩ 1 1 [.slice Au ul.length cu] rfl rfl (cell_one_new _ _ _) (by intro u hu; simp at hu; subst hu; rfl) (by unfold maxLen; omega) (by omega) (by simp; omega) ?_; intro v' w5 hown1 hgrow hnil; obtain ⟨gg, cg, rfl⟩ := ownsRow_succ hown1; have s0 := (hgrow.cell_far ⟨w.heap.size + 1, 0, none⟩ (by simp; omega) (Ne.symm hne)).trans p0; have s1 := (hgrow.frozen_far ⟨w.heap.size + 1, 0, none⟩ (by simp; omega) (Ne.symm hne)).trans p1)
              exact ⟨(HK1.out.trans (keeps_grow HJ1.out.own hgrow)).trans (KeepsOthers.setCell _ _ _), _, _, by rw [HROW2.out]; exact HJ1.out.push c HO1.out hgrow hown1⟩
        · by_cases h6 : e2.kind = 6
          · have HRT := Lib.hid (show m + 1 = runTo l j from run_uniq ⟨by omega, HON.out, by rw [HCN.out]; simp [h6]⟩)
            have q1 : (e1.kind == 3) = false := by simpa using h3
            have q2 : (e1.kind != 3) = true := by simpa using h3
            have q3 : (e2.kind == 6) = true := by simpa using h6
            have q4 : (e2.kind != 6) = false := by simpa using h6
            clear h3 h6
            gi_wp2
            have HB0' := Lib.hid (Nat.le_refl wr.heap.size)
            have HF0 := Lib.hid HJ.out.fin
            have HBS := Lib.hid HJ.out.sz
            obtain ⟨B, hB⟩ : ∃ B, B = wr.heap.size := ⟨_, rfl⟩
            rw [← hB] at HF0 HBS
            have HBe := Lib.hid (Nat.le_of_eq hB)
            clear hB
            gi_loopw [8, 47] (fun s8 s47 W2 => ∃ (q : Nat) (ul : List Rd), q ≤ a.length ∧ s47 = .int .i64 q ∧ ul = (a.take q).flatMap (use1 l j (m + 1)) ∧ KeepsOthers W W2 ∧ RJ w (w1.heap.size + 3) w.heap.size (w.heap.size + 1) w1.heap.size (w1.heap.size + 2) (some ad) l.length cap A2 cap2 a v vs (rows l a j) W2 ∧ B ≤ W2.heap.size ∧ W2.ownsRow B 53 2 s8 ul.length (flatD ul) ∧ Fin2 (w1.heap.size + 3) vs (rows l a j) B W2) (fun _ s47 _ => a.length - (intOf s47).toNat)
            case atStart => exact ⟨0, [], by omega, rfl, rfl, HK0.out, HJ.out, HBe.out, World.ownsRow_nil _ _ _ _, HF0.out⟩
            case round =>
              obtain ⟨q, ul, hq, rfl, hul, K, J, hB, hown, F⟩ := hrel
              by_cases hlt2 : q < a.length
              · have hx := List.getElem?_eq_getElem hlt2
                have HTF := Lib.hid (take_flat (use1 l j (m + 1)) hx)
                have hxi := HIN.out _ (List.getElem_mem hlt2)
                have hql := flat_le (use1 l j (m + 1)) l.length (a.take q) (fun y hy => use1_len HIN.out j (m + 1) y (List.mem_of_mem_take hy))
                rw [← hul] at hql
                have hqa : (a.take q).length * l.length ≤ 80 * 80 := Nat.mul_le_mul (by rw [List.length_take]; omega) hl
                have hulI : ul.length ≤ 6400 := by omega
                obtain ⟨ad2, rfl, E2⟩ := J.atts.at_ q _ hx
                have HXI := Lib.hid hxi
                generalize a[q] = x at *
                obtain ⟨xf, xt, xk, xc⟩ := x
                simp only at hxi E2
                obtain ⟨hxi1, hxi2⟩ := hxi
                have HUL := Lib.hid hul
                have HKN := Lib.hid (K.trans (KeepsOthers.alloc wr (.cells #[.int .i64 xf, .int .i64 xt, .int .i64 xk, .bool xc] 48)))
                have HJN := Lib.hid (J.next c (ba wr (.cells #[.int .i64 xf, .int .i64 xt, .int .i64 xk, .bool xc] 48)))
                have HBN := Lib.hid (Nat.le_trans hB (ba wr (.cells #[.int .i64 xf, .int .i64 xt, .int .i64 xk, .bool xc] 48)).size)
                have HOW := Lib.hid (owns_below hown (ba wr (.cells #[.int .i64 xf, .int .i64 xt, .int .i64 xk, .bool xc] 48)))
                have HFB := Lib.hid (F.next (ba wr (.cells #[.int .i64 xf, .int .i64 xt, .int .i64 xk, .bool xc] 48)))
                have r1 := J.ev
                have hjs2 := J.sz
                have hl2 : w.heap.size < wr.heap.size := by omega
                obtain ⟨_, g0, g1, g2, g3⟩ := E2
                clear hx hul hql hqa K J hB hown F
                cases xc
                · have HU1 := Lib.hid (show use1 l j (m + 1) ⟨xf, xt, xk, false⟩ = [] from by unfold use1; simp)
                  gi_wp2
                  go_roundw
                  case rel => exact ⟨q + 1, ul, by omega, by go_num, by rw [HTF.out, HU1.out, List.append_nil]; exact HUL.out, HKN.out, HJN.out, HBN.out, HOW.out, HFB.out⟩
                  case measure => simp [intOf]; omega
                · by_cases hxj : xt < j
                  · have HU1 := Lib.hid (show use1 l j (m + 1) ⟨xf, xt, xk, true⟩ = [] from by unfold use1; simp [show ¬ j ≤ xt from by omega])
                    have z1 : decide (xt < j) = true := by simpa using hxj
                    have z2 : (xt : Int) < (j : Int) := by omega
                    gi_wp2
                    go_roundw
                    case rel => exact ⟨q + 1, ul, by omega, by go_num, by rw [HTF.out, HU1.out, List.append_nil]; exact HUL.out, HKN.out, HJN.out, HBN.out, HOW.out, HFB.out⟩
                    case measure => simp [intOf]; omega
                  · have z1 : decide (xt < j) = false := by simpa using hxj
                    have z2 : ¬ (xt : Int) < (j : Int) := by omega
                    by_cases hxm : m + 1 ≤ xt
                    · have HU1 := Lib.hid (show use1 l j (m + 1) ⟨xf, xt, xk, true⟩ = [] from by unfold use1; simp [show ¬ xt < m + 1 from by omega])
                      have z3 : (m : Int) + 1 ≤ (xt : Int) := by omega
                      rcases Nat.lt_or_ge (m + 1) l.length with hz | hz
                      · try (exfalso; omega)
                        all_goals
                          clear hz
                          gi_wp2
                          go_roundw
                          case rel => exact ⟨q + 1, ul, by omega, by go_num, by rw [HTF.out, HU1.out, List.append_nil]; exact HUL.out, HKN.out, HJN.out, HBN.out, HOW.out, HFB.out⟩
                          case measure => simp [intOf]; omega
                      · exfalso; omega
                    · have HU1 := Lib.hid (show use1 l j (m + 1) ⟨xf, xt, xk, true⟩ = rdR l xf (xt + 1 - xf) from by unfold use1; simp [show j ≤ xt from by omega, show xt < m + 1 from by omega]; rfl)
                      have z3 : ¬ (m : Int) + 1 ≤ (xt : Int) := by omega
                      gi_wp2
                      have hd1 : xt + 1 - xf ≤ 80 := by omega
                      have hd2 : xf + (xt + 1 - xf) ≤ l.length := by omega
                      generalize xt + 1 - xf = d at *
                      have hdI : (d : Int) ≤ 80 := by omega
                      gi_loopw [8, 74] (fun s8 s74 W3 => ∃ k : Nat, k ≤ d ∧ s74 = .int .i64 k ∧ KeepsOthers W W3 ∧ RJ w (w1.heap.size + 3) w.heap.size (w.heap.size + 1) w1.heap.size (w1.heap.size + 2) (some ad) l.length cap (some ad2) cap2 a v vs (rows l a j) W3 ∧ B ≤ W3.heap.size ∧ W3.ownsRow B 53 2 s8 (ul ++ rdR l xf k).length (flatD (ul ++ rdR l xf k)) ∧ Fin2 (w1.heap.size + 3) vs (rows l a j) B W3) (fun _ s74 _ => d - (intOf s74).toNat)
                      case atStart => exact ⟨0, by omega, rfl, HKN.out, HJN.out, HBN.out, by simpa [rdR] using HOW.out, HFB.out⟩
                      case round =>
                        obtain ⟨k, hk, rfl, K, J, hB, hown, F⟩ := hrel
                        by_cases hlt3 : k < d
                        · have HE3 := Lib.hid (List.getElem?_eq_getElem (show xf + k < l.length from by omega))
                          obtain ⟨ad', qq, EK⟩ := (HC.out.next J.below).at_ (xf + k) _ HE3.out
                          cases qq
                          generalize l[xf + k] = y at *
                          have HRS := Lib.hid (rdR_succ (i := xf) (d := k) HE3.out)
                          have hadd : (ad.add (xf * 6)).add (k * 6) = ad.add ((xf + k) * 6) := by rw [Go.Deep.add_add, ← Nat.add_mul]
                          rw [← hadd] at EK
                          obtain ⟨_, y0, y1, y2, y3, y4, y5⟩ := EK
                          have hrk := rdR_len l xf k
                          have hRL : (ul ++ rdR l xf k).length ≤ 7000 := by rw [List.length_append]; omega
                          have hB1 := Nat.le_trans hB (ba wr (.cells #[.int .i64 y.kind, .int .i64 y.time, .int .i64 y.task, .int .i64 y.n, .int .i16 y.value, .int .i64 y.port] 26)).size
                          have HK1 := Lib.hid (K.trans (KeepsOthers.alloc wr (.cells #[.int .i64 y.kind, .int .i64 y.time, .int .i64 y.task, .int .i64 y.n, .int .i16 y.value, .int .i64 y.port] 26)))
                          have HJ1 := Lib.hid (J.next c (ba wr (.cells #[.int .i64 y.kind, .int .i64 y.time, .int .i64 y.task, .int .i64 y.n, .int .i16 y.value, .int .i64 y.port] 26)))
                          have HO1 := Lib.hid (owns_below hown (ba wr (.cells #[.int .i64 y.kind, .int .i64 y.time, .int .i64 y.task, .int .i64 y.n, .int .i16 y.value, .int .i64 y.port] 26)))
                          have HF1 := Lib.hid (F.next (ba wr (.cells #[.int .i64 y.kind, .int .i64 y.time, .int .i64 y.task, .int .i64 y.n, .int .i16 y.value, .int .i64 y.port] 26)))
                          have HB1 := Lib.hid hB1
                          have HJS := Lib.hid J.sz
                          clear K J F hB1 hadd hrk
                          by_cases hy4 : y.kind = 4
                          · have HR := Lib.hid (show (ul ++ rdR l xf k) ++ [(y.port, y.value)] = ul ++ rdR l xf (k + 1) from by rw [HRS.out, List.append_assoc]; unfold rdE; rw [if_pos hy4])
                            have z7 : (y.kind == 4) = true := by simpa using hy4
                            have hn0 := news_rd (wr.alloc (.cells #[.int .i64 y.kind, .int .i64 y.time, .int .i64 y.task, .int .i64 y.n, .int .i16 y.value, .int .i64 y.port] 26)) (y.port, y.value) 53
                            rw [World.size_alloc] at hn0
                            have HN0 := Lib.hid hn0
                            clear hy4 HRS hn0
                            generalize ul ++ rdR l xf k = R at *
                            have HK2 := Lib.hid (HK1.out.trans (KeepsOthers.alloc _ (.cells #[.int .i64 y.port, .int .i16 y.value] 53)))
                            have HJ2 := Lib.hid (HJ1.out.next c (ba _ (.cells #[.int .i64 y.port, .int .i16 y.value] 53)))
                            have HO2 := Lib.hid (owns_below HO1.out (ba _ (.cells #[.int .i64 y.port, .int .i16 y.value] 53)))
                            have HF2 := Lib.hid (HF1.out.next (ba _ (.cells #[.int .i64 y.port, .int .i16 y.value] 53)))
                            have HB2 := Lib.hid (Nat.le_trans HB1.out (ba _ (.cells #[.int .i64 y.port, .int .i16 y.value] 53)).size)
                            have hBl := HB1.out
                            simp only [World.size_alloc] at hBl
                            gi_wp2_with (gi_at_builtin; refine wpListIn_append_own _ rfl (.tmp 81) (.tmp 87) 51 rfl B 53 i53 _ 2 16 Tryd.underlying51 gti gz0 gz1 gz2 rfl (by decide) _ R.length (flatD R) rfl ((hown.alloc _).alloc _) ⟨wr.heap.size + 1, 0, none⟩ 1 1 (cellsD (y.port, y.value)) rfl rfl HN0.out (one_rd _) (by unfold maxLen; omega) (by omega) (by simp; omega) ?_; intro v' w5 hown1 hgrow hnil)
                            have HK3 := Lib.hid (HK2.out.trans (keeps_grow HO2.out hgrow))
                            have HJ3 := Lib.hid (HJ2.out.grown c hgrow (fun g e => Nat.le_trans HBS.out (HO2.out.lt g e).1) (fun g e => owns_ne HJ2.out.own HO2.out (by decide) e) (fun x hx g e q => by have h1 := HF2.out.lt x hx g e; have h2 := (HO2.out.lt g q).1; omega))
                            have HF3 := Lib.hid (HF2.out.grown hgrow (fun x hx g e q => by have h1 := HF2.out.lt x hx g e; have h2 := (HO2.out.lt g q).1; omega))
                            have HB3 := Lib.hid (Nat.le_trans HB2.out hgrow.size)
                            have HO3 := Lib.hid (show w5.ownsRow B 53 2 v' (ul ++ rdR l xf (k + 1)).length (flatD (ul ++ rdR l xf (k + 1))) from by rw [← HR.out, flatD_snoc, List.length_append, List.length_singleton]; exact hown1)
                            clear hown1 hgrow hnil hown hBl
                            gi_wp2
                            go_roundw
                            case rel => exact ⟨k + 1, by omega, by go_num, HK3.out, HJ3.out, HB3.out, HO3.out, HF3.out⟩
                            case measure => simp [intOf]; omega
                          · have HR := Lib.hid (show ul ++ rdR l xf k = ul ++ rdR l xf (k + 1) from by rw [HRS.out]; unfold rdE; rw [if_neg hy4, List.append_nil])
                            have z7 : (y.kind == 4) = false := by simpa using hy4
                            clear hy4 HRS
                            gi_wp2
                            go_roundw
                            case rel => exact ⟨k + 1, by omega, by go_num, HK1.out, HJ1.out, HB1.out, by rw [← HR.out]; exact HO1.out, HF1.out⟩
                            case measure => simp [intOf]; omega
                        · obtain rfl : k = d := by omega
                          have HK9 := Lib.hid K
                          have HJ9 := Lib.hid J
                          have HF9 := Lib.hid F
                          have HO9 := Lib.hid hown
                          have HB9 := Lib.hid hB
                          clear K J F hown hB
                          gi_wp2
                          go_roundw
                          case rel => exact ⟨q + 1, ul ++ rdR l xf k, by omega, by go_num, by rw [HTF.out, HU1.out, HUL.out], HK9.out, HJ9.out, HB9.out, HO9.out, HF9.out⟩
                          case measure => simp [intOf]; omega
              · obtain rfl : q = a.length := by omega
                rw [List.take_length] at hul
                have HROW2 := Lib.hid (show rows l a (j + 1) = rows l a j ++ [ul] from by rw [HROW.out, hul, ← HRT.out]; rfl)
                obtain ⟨Au, cu, rfl, -⟩ := Rds.of_own hown
                have hvl : vs.length ≤ 80 := by
                  have h1 := J.fin.len
                  have h2 := begs_len l j
                  unfold rows at h1
                  rw [List.length_map] at h1
                  omega
                have HK1 := Lib.hid (K.trans (KeepsOthers.alloc wr (.cells #[.slice Au ul.length cu] 51)))
                have HJ1 := Lib.hid (J.next c (ba wr (.cells #[.slice Au ul.length cu] 51)))
                have HO1 := Lib.hid (owns_mono (owns_below hown (ba wr (.cells #[.slice Au ul.length cu] 51))) HBS.out)
                have hownv := J.own
                have o0 := J.out
                have o1 := J.fo
                have hjz := J.sz
                have hBO : w.heap.size + 1 < wr.heap.size := by omega
                have hne : v.ownBlock ≠ some (w.heap.size + 1) := fun e => by have := (hownv.lt _ e).1; omega
                have p0 := HJ1.out.out
                have p1 := HJ1.out.fo
                clear hul hown K J F hB
                gi_wp2_with (gi_at_builtin; refine wpListIn_append_own _ rfl (.tmp 91) (.tmp 93) 49 rfl (w1.heap.size + 3) 51 i51 _ 1 24 Tryd.underlying49 hti hz0 hz1 hz2 rfl (by decide) v vs.length vs rfl (hownv.alloc _) ⟨wr.heap.size, 0, none⟩ 1 1 [.slice Au ul.length cu] rfl rfl (cell_one_new _ _ _) (by intro u hu; simp at hu; subst hu; rfl) (by unfold maxLen; omega) (by omega) (by simp; omega) ?_; intro v' w5 hown1 hgrow hnil; obtain ⟨gg, cg, rfl⟩ := ownsRow_succ hown1; have s0 := (hgrow.cell_far ⟨w.heap.size + 1, 0, none⟩ (by simp; omega) (Ne.symm hne)).trans p0; have s1 := (hgrow.frozen_far ⟨w.heap.size + 1, 0, none⟩ (by simp; omega) (Ne.symm hne)).trans p1)
                exact ⟨(HK1.out.trans (keeps_grow HJ1.out.own hgrow)).trans (KeepsOthers.setCell _ _ _), _, _, by rw [HROW2.out]; exact HJ1.out.push c HO1.out hgrow hown1⟩
          · have HNX := Lib.hid (show contE l (m + 1) = true from by rw [HCN.out]; simp [h3, h6])
            have q1 : (e1.kind == 3) = false := by simpa using h3
            have q2 : (e1.kind != 3) = true := by simpa using h3
            have q3 : (e2.kind == 6) = false := by simpa using h6
            have q4 : (e2.kind != 6) = true := by simpa using h6
            clear h3 h6
            gi_wp2
            go_roundw
            case rel => exact ⟨m + 1, by omega, by omega, by go_num, fun q h1 h2 => by
              by_cases z : q = m + 1
              · subst z; exact HNX.out
              · exact HON.out q h1 (by omega), HK0.out, HJ.out⟩
            case measure => simp [intOf]; omega
      · have HRT := Lib.hid (show m + 1 = runTo l j from run_uniq ⟨by omega, HON.out, cont_none (by omega)⟩)
        have hltI : ¬ (m : Int) + 1 < (l.length : Int) := by omega
        have HK0 := Lib.hid K0
        have HJ := Lib.hid J
        clear K0 J
        gi_wp2
        have HB0' := Lib.hid (Nat.le_refl wr.heap.size)
        have HF0 := Lib.hid HJ.out.fin
        have HBS := Lib.hid HJ.out.sz
        obtain ⟨B, hB⟩ : ∃ B, B = wr.heap.size := ⟨_, rfl⟩
        rw [← hB] at HF0 HBS
        have HBe := Lib.hid (Nat.le_of_eq hB)
        clear hB
        gi_loopw [8, 47] (fun s8 s47 W2 => ∃ (q : Nat) (ul : List Rd), q ≤ a.length ∧ s47 = .int .i64 q ∧ ul = (a.take q).flatMap (use1 l j (m + 1)) ∧ KeepsOthers W W2 ∧ RJ w (w1.heap.size + 3) w.heap.size (w.heap.size + 1) w1.heap.size (w1.heap.size + 2) (some ad) l.length cap A2 cap2 a v vs (rows l a j) W2 ∧ B ≤ W2.heap.size ∧ W2.ownsRow B 53 2 s8 ul.length (flatD ul) ∧ Fin2 (w1.heap.size + 3) vs (rows l a j) B W2) (fun _ s47 _ => a.length - (intOf s47).toNat)
        case atStart => exact ⟨0, [], by omega, rfl, rfl, HK0.out, HJ.out, HBe.out, World.ownsRow_nil _ _ _ _, HF0.out⟩
        case round =>
          obtain ⟨q, ul, hq, rfl, hul, K, J, hB, hown, F⟩ := hrel
          by_cases hlt2 : q < a.length
          · have hx := List.getElem?_eq_getElem hlt2
            have HTF := Lib.hid (take_flat (use1 l j (m + 1)) hx)
            have hxi := HIN.out _ (List.getElem_mem hlt2)
            have hql := flat_le (use1 l j (m + 1)) l.length (a.take q) (fun y hy => use1_len HIN.out j (m + 1) y (List.mem_of_mem_take hy))
            rw [← hul] at hql
            have hqa : (a.take q).length * l.length ≤ 80 * 80 := Nat.mul_le_mul (by rw [List.length_take]; omega) hl
            have hulI : ul.length ≤ 6400 := by omega
            obtain ⟨ad2, rfl, E2⟩ := J.atts.at_ q _ hx
            have HXI := Lib.hid hxi
            generalize a[q] = x at *
            obtain ⟨xf, xt, xk, xc⟩ := x
            simp only at hxi E2
            obtain ⟨hxi1, hxi2⟩ := hxi
            have HUL := Lib.hid hul
            have HKN := Lib.hid (K.trans (KeepsOthers.alloc wr (.cells #[.int .i64 xf, .int .i64 xt, .int .i64 xk, .bool xc] 48)))
            have HJN := Lib.hid (J.next c (ba wr (.cells #[.int .i64 xf, .int .i64 xt, .int .i64 xk, .bool xc] 48)))
            have HBN := Lib.hid (Nat.le_trans hB (ba wr (.cells #[.int .i64 xf, .int .i64 xt, .int .i64 xk, .bool xc] 48)).size)
            have HOW := Lib.hid (owns_below hown (ba wr (.cells #[.int .i64 xf, .int .i64 xt, .int .i64 xk, .bool xc] 48)))
            have HFB := Lib.hid (F.next (ba wr (.cells #[.int .i64 xf, .int .i64 xt, .int .i64 xk, .bool xc] 48)))
            have r1 := J.ev
            have hjs2 := J.sz
            have hl2 : w.heap.size < wr.heap.size := by omega
            obtain ⟨_, g0, g1, g2, g3⟩ := E2
            clear hx hul hql hqa K J hB hown F
            cases xc
            · have HU1 := Lib.hid (show use1 l j (m + 1) ⟨xf, xt, xk, false⟩ = [] from by unfold use1; simp)
              gi_wp2
              go_roundw
              case rel => exact ⟨q + 1, ul, by omega, by go_num, by rw [HTF.out, HU1.out, List.append_nil]; exact HUL.out, HKN.out, HJN.out, HBN.out, HOW.out, HFB.out⟩
              case measure => simp [intOf]; omega
            · by_cases hxj : xt < j
              · have HU1 := Lib.hid (show use1 l j (m + 1) ⟨xf, xt, xk, true⟩ = [] from by unfold use1; simp [show ¬ j ≤ xt from by omega])
                have z1 : decide (xt < j) = true := by simpa using hxj
                have z2 : (xt : Int) < (j : Int) := by omega
                gi_wp2
                go_roundw
                case rel => exact ⟨q + 1, ul, by omega, by go_num, by rw [HTF.out, HU1.out, List.append_nil]; exact HUL.out, HKN.out, HJN.out, HBN.out, HOW.out, HFB.out⟩
                case measure => simp [intOf]; omega
              · have z1 : decide (xt < j) = false := by simpa using hxj
                have z2 : ¬ (xt : Int) < (j : Int) := by omega
                by_cases hxm : m + 1 ≤ xt
                · have HU1 := Lib.hid (show use1 l j (m + 1) ⟨xf, xt, xk, true⟩ = [] from by unfold use1; simp [show ¬ xt < m + 1 from by omega])
                  have z3 : (m : Int) + 1 ≤ (xt : Int) := by omega
                  rcases Nat.lt_or_ge (m + 1) l.length with hz | hz
                  · try (exfalso; omega)
                    all_goals
                      clear hz
                      gi_wp2
                      go_roundw
                      case rel => exact ⟨q + 1, ul, by omega, by go_num, by rw [HTF.out, HU1.out, List.append_nil]; exact HUL.out, HKN.out, HJN.out, HBN.out, HOW.out, HFB.out⟩
                      case measure => simp [intOf]; omega
                  · exfalso; omega
                · have HU1 := Lib.hid (show use1 l j (m + 1) ⟨xf, xt, xk, true⟩ = rdR l xf (xt + 1 - xf) from by unfold use1; simp [show j ≤ xt from by omega, show xt < m + 1 from by omega]; rfl)
                  have z3 : ¬ (m : Int) + 1 ≤ (xt : Int) := by omega
                  gi_wp2
                  have hd1 : xt + 1 - xf ≤ 80 := by omega
                  have hd2 : xf + (xt + 1 - xf) ≤ l.length := by omega
                  generalize xt + 1 - xf = d at *
                  have hdI : (d : Int) ≤ 80 := by omega
                  gi_loopw [8, 74] (fun s8 s74 W3 => ∃ k : Nat, k ≤ d ∧ s74 = .int .i64 k ∧ KeepsOthers W W3 ∧ RJ w (w1.heap.size + 3) w.heap.size (w.heap.size + 1) w1.heap.size (w1.heap.size + 2) (some ad) l.length cap (some ad2) cap2 a v vs (rows l a j) W3 ∧ B ≤ W3.heap.size ∧ W3.ownsRow B 53 2 s8 (ul ++ rdR l xf k).length (flatD (ul ++ rdR l xf k)) ∧ Fin2 (w1.heap.size + 3) vs (rows l a j) B W3) (fun _ s74 _ => d - (intOf s74).toNat)
                  case atStart => exact ⟨0, by omega, rfl, HKN.out, HJN.out, HBN.out, by simpa [rdR] using HOW.out, HFB.out⟩
                  case round =>
                    obtain ⟨k, hk, rfl, K, J, hB, hown, F⟩ := hrel
                    by_cases hlt3 : k < d
                    · have HE3 := Lib.hid (List.getElem?_eq_getElem (show xf + k < l.length from by omega))
                      obtain ⟨ad', qq, EK⟩ := (HC.out.next J.below).at_ (xf + k) _ HE3.out
                      cases qq
                      generalize l[xf + k] = y at *
                      have HRS := Lib.hid (rdR_succ (i := xf) (d := k) HE3.out)
                      have hadd : (ad.add (xf * 6)).add (k * 6) = ad.add ((xf + k) * 6) := by rw [Go.Deep.add_add, ← Nat.add_mul]
                      rw [← hadd] at EK
                      obtain ⟨_, y0, y1, y2, y3, y4, y5⟩ := EK
                      have hrk := rdR_len l xf k
                      have hRL : (ul ++ rdR l xf k).length ≤ 7000 := by rw [List.length_append]; omega
                      have hB1 := Nat.le_trans hB (ba wr (.cells #[.int .i64 y.kind, .int .i64 y.time, .int .i64 y.task, .int .i64 y.n, .int .i16 y.value, .int .i64 y.port] 26)).size
                      have HK1 := Lib.hid (K.trans (KeepsOthers.alloc wr (.cells #[.int .i64 y.kind, .int .i64 y.time, .int .i64 y.task, .int .i64 y.n, .int .i16 y.value, .int .i64 y.port] 26)))
                      have HJ1 := Lib.hid (J.next c (ba wr (.cells #[.int .i64 y.kind, .int .i64 y.time, .int .i64 y.task, .int .i64 y.n, .int .i16 y.value, .int .i64 y.port] 26)))
                      have HO1 := Lib.hid (owns_below hown (ba wr (.cells #[.int .i64 y.kind, .int .i64 y.time, .int .i64 y.task, .int .i64 y.n, .int .i16 y.value, .int .i64 y.port] 26)))
                      have HF1 := Lib.hid (F.next (ba wr (.cells #[.int .i64 y.kind, .int .i64 y.time, .int .i64 y.task, .int .i64 y.n, .int .i16 y.value, .int .i64 y.port] 26)))
                      have HB1 := Lib.hid hB1
                      have HJS := Lib.hid J.sz
                      clear K J F hB1 hadd hrk
                      by_cases hy4 : y.kind = 4
                      · have HR := Lib.hid (show (ul ++ rdR l xf k) ++ [(y.port, y.value)] = ul ++ rdR l xf (k + 1) from by rw [HRS.out, List.append_assoc]; unfold rdE; rw [if_pos hy4])
                        have z7 : (y.kind == 4) = true := by simpa using hy4
                        have hn0 := news_rd (wr.alloc (.cells #[.int .i64 y.kind, .int .i64 y.time, .int .i64 y.task, .int .i64 y.n, .int .i16 y.value, .int .i64 y.port] 26)) (y.port, y.value) 53
                        rw [World.size_alloc] at hn0
                        have HN0 := Lib.hid hn0
                        clear hy4 HRS hn0
                        generalize ul ++ rdR l xf k = R at *
                        have HK2 := Lib.hid (HK1.out.trans (KeepsOthers.alloc _ (.cells #[.int .i64 y.port, .int .i16 y.value] 53)))
                        have HJ2 := Lib.hid (HJ1.out.next c (ba _ (.cells #[.int .i64 y.port, .int .i16 y.value] 53)))
                        have HO2 := Lib.hid (owns_below HO1.out (ba _ (.cells #[.int .i64 y.port, .int .i16 y.value] 53)))
                        have HF2 := Lib.hid (HF1.out.next (ba _ (.cells #[.int .i64 y.port, .int .i16 y.value] 53)))
                        have HB2 := Lib.hid (Nat.le_trans HB1.out (ba _ (.cells #[.int .i64 y.port, .int .i16 y.value] 53)).size)
                        have hBl := HB1.out
                        simp only [World.size_alloc] at hBl
                        gi_wp2_with (gi_at_builtin; refine wpListIn_append_own _ rfl (.tmp 81) (.tmp 87) 51 rfl B 53 i53 _ 2 16 Tryd.underlying51 gti gz0 gz1 gz2 rfl (by decide) _ R.length (flatD R) rfl ((hown.alloc _).alloc _) ⟨wr.heap.size + 1, 0, none⟩ 1 1 (cellsD (y.port, y.value)) rfl rfl HN0.out (one_rd _) (by unfold maxLen; omega) (by omega) (by simp; omega) ?_; intro v' w5 hown1 hgrow hnil)
                        have HK3 := Lib.hid (HK2.out.trans (keeps_grow HO2.out hgrow))
                        have HJ3 := Lib.hid (HJ2.out.grown c hgrow (fun g e => Nat.le_trans HBS.out (HO2.out.lt g e).1) (fun g e => owns_ne HJ2.out.own HO2.out (by decide) e) (fun x hx g e q => by have h1 := HF2.out.lt x hx g e; have h2 := (HO2.out.lt g q).1; omega))
                        have HF3 := Lib.hid (HF2.out.grown hgrow (fun x hx g e q => by have h1 := HF2.out.lt x hx g e; have h2 := (HO2.out.lt g q).1; omega))
                        have HB3 := Lib.hid (Nat.le_trans HB2.out hgrow.size)
                        have HO3 := Lib.hid (show w5.ownsRow B 53 2 v' (ul ++ rdR l xf (k + 1)).length (flatD (ul ++ rdR l xf (k + 1))) from by rw [← HR.out, flatD_snoc, List.length_append, List.length_singleton]; exact hown1)
                        clear hown1 hgrow hnil hown hBl
                        gi_wp2
                        go_roundw
                        case rel => exact ⟨k + 1, by omega, by go_num, HK3.out, HJ3.out, HB3.out, HO3.out, HF3.out⟩
                        case measure => simp [intOf]; omega
                      · have HR := Lib.hid (show ul ++ rdR l xf k = ul ++ rdR l xf (k + 1) from by rw [HRS.out]; unfold rdE; rw [if_neg hy4, List.append_nil])
                        have z7 : (y.kind == 4) = false := by simpa using hy4
                        clear hy4 HRS
                        gi_wp2
                        go_roundw
                        case rel => exact ⟨k + 1, by omega, by go_num, HK1.out, HJ1.out, HB1.out, by rw [← HR.out]; exact HO1.out, HF1.out⟩
                        case measure => simp [intOf]; omega
                    · obtain rfl : k = d := by omega
                      have HK9 := Lib.hid K
                      have HJ9 := Lib.hid J
                      have HF9 := Lib.hid F
                      have HO9 := Lib.hid hown
                      have HB9 := Lib.hid hB
                      clear K J F hown hB
                      gi_wp2
                      go_roundw
                      case rel => exact ⟨q + 1, ul ++ rdR l xf k, by omega, by go_num, by rw [HTF.out, HU1.out, HUL.out], HK9.out, HJ9.out, HB9.out, HO9.out, HF9.out⟩
                      case measure => simp [intOf]; omega
          · obtain rfl : q = a.length := by omega
            rw [List.take_length] at hul
            have HROW2 := Lib.hid (show rows l a (j + 1) = rows l a j ++ [ul] from by rw [HROW.out, hul, ← HRT.out]; rfl)
            obtain ⟨Au, cu, rfl, -⟩ := Rds.of_own hown
            have hvl : vs.length ≤ 80 := by
              have h1 := J.fin.len
              have h2 := begs_len l j
              unfold rows at h1
              rw [List.length_map] at h1
              omega
            have HK1 := Lib.hid (K.trans (KeepsOthers.alloc wr (.cells #[.slice Au ul.length cu] 51)))
            have HJ1 := Lib.hid (J.next c (ba wr (.cells #[.slice Au ul.length cu] 51)))
            have HO1 := Lib.hid (owns_mono (owns_below hown (ba wr (.cells #[.slice Au ul.length cu] 51))) HBS.out)
            have hownv := J.own
            have o0 := J.out
            have o1 := J.fo
            have hjz := J.sz
            have hBO : w.heap.size + 1 < wr.heap.size := by omega
            have hne : v.ownBlock ≠ some (w.heap.size + 1) := fun e => by have := (hownv.lt _ e).1; omega
            have p0 := HJ1.out.out
            have p1 := HJ1.out.fo
            clear hul hown K J F hB
            gi_wp2_with (gi_at_builtin; refine wpListIn_append_own _ rfl (.tmp 91) (.tmp 93) 49 rfl (w1.heap.size + 3) 51 i51 _ 1 24 Tryd.underlying49 hti hz0 hz1 hz2 rfl (by decide) v vs.length vs rfl (hownv.alloc _) ⟨wr.heap.size, 0, none⟩ 1 1 [.slice Au ul.length cu] rfl rfl (cell_one_new _ _ _) (by intro u hu; simp at hu; subst hu; rfl) (by unfold maxLen; omega) (by omega) (by simp; omega) ?_; intro v' w5 hown1 hgrow hnil; obtain ⟨gg, cg, rfl⟩ := ownsRow_succ hown1; have s0 := (hgrow.cell_far ⟨w.heap.size + 1, 0, none⟩ (by simp; omega) (Ne.symm hne)).trans p0; have s1 := (hgrow.frozen_far ⟨w.heap.size + 1, 0, none⟩ (by simp; omega) (Ne.symm hne)).trans p1)
            exact ⟨(HK1.out.trans (keeps_grow HJ1.out.own hgrow)).trans (KeepsOthers.setCell _ _ _), _, _, by rw [HROW2.out]; exact HJ1.out.push c HO1.out hgrow hown1⟩
end Go.Proofs.YtdfconiahfdhbaaDoor
