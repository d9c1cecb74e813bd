/-
  Readings, by the reference.
-/
import Derived.Test.YtdfconiahfdhbaaDoorRdo
import Derived.Test.YtdfconiahfdhbaaDoorAtr
import Derived.Test.YtdfconiahfdhbaaDoorWat
import Derived.Deep.RegionLaw
namespace Go.Proofs.YtdfconiahfdhbaaDoor
open Go.RowKit
attribute [local go_sem ↓] Go.wp_at_zero Go.wp_at_succ

theorem ats_in {l : List Ev} : ∀ (d i : Nat), l.length - i ≤ d → ∀ a ∈ atsL l i, a.fr ≤ a.tt ∧ a.tt < l.length
  | 0, i, hd => by rw [atsL_end (by omega)]; exact fun a h => by cases h
  | d + 1, i, hd => by
    cases hA : atsL l i with
    | nil => exact fun a h => by cases h
    | cons a r =>
      have N := atsL_cons (l.length - i) i rfl hA
      have h1 := N.le
      have h2 := N.tt
      have h3 := N.lt
      intro b hb
      rcases List.mem_cons.1 hb with rfl | hb
      · exact ⟨h2, h3⟩
      · rw [N.rest] at hb
        exact ats_in d (a.tt + 1) (by omega) b hb
theorem rdR_len (l : List Ev) (i : Nat) : ∀ d, (rdR l i d).length ≤ d
  | 0 => Nat.le_refl _
  | d + 1 => by
    have := rdR_len l i d
    show (rdR l i d ++ (match l[i + d]? with | some e => rdE e | none => [])).length ≤ _
    rw [List.length_append]
    have h : (match l[i + d]? with | some e => rdE e | none => []).length ≤ 1 := by
      split
      · unfold rdE; split <;> simp
      · simp
    omega
theorem rdA_len (l : List Ev) (a : At) : (rdA l a).length ≤ a.tt + 1 - a.fr := rdR_len _ _ _
theorem flat_le {α β : Type} (f : α → List β) (m : Nat) : ∀ l : List α, (∀ x ∈ l, (f x).length ≤ m) → (l.flatMap f).length ≤ l.length * m
  | [], _ => by simp
  | x :: l, h => by
    have h1 := flat_le f m l (fun y hy => h y (by simp [hy]))
    have h2 := h x (by simp)
    rw [List.flatMap_cons, List.length_append, List.length_cons, Nat.succ_mul]
    omega
theorem at1_len {l : List Ev} {as0 : List At} (h : ∀ a ∈ as0, a.fr ≤ a.tt ∧ a.tt < l.length) (i : Nat) : ∀ x ∈ as0, (at1 l i x).length ≤ l.length := fun x hx => by
  have := h x hx
  have := rdA_len l x
  unfold at1
  split
  · omega
  · simp
theorem use1_len {l : List Ev} {as0 : List At} (h : ∀ a ∈ as0, a.fr ≤ a.tt ∧ a.tt < l.length) (s t : Nat) : ∀ x ∈ as0, (use1 l s t x).length ≤ l.length := fun x hx => by
  have := h x hx
  have := rdA_len l x
  unfold use1
  split
  · omega
  · simp
theorem rowsTo_le {l : List Ev} {as0 : List At} (h : ∀ a ∈ as0, a.fr ≤ a.tt ∧ a.tt < l.length) (ha : as0.length ≤ 80) (hl : l.length ≤ 80) (i : Nat) : ∀ r ∈ rowsTo l as0 i, r.length ≤ 6400 := fun r hr => by
  unfold rowsTo at hr
  obtain ⟨s, _, rfl⟩ := List.mem_map.1 hr
  have h1 := flat_le _ l.length as0 (use1_len h s (min i (runTo l s)))
  unfold useL
  have : as0.length * l.length ≤ 80 * 80 := Nat.mul_le_mul ha hl
  omega
theorem rowsTo_len (l : List Ev) (as0 : List At) (i : Nat) : (rowsTo l as0 i).length ≤ i := by
  unfold rowsTo
  rw [List.length_map]
  exact begs_len l i
/-- the rows in memory between two rounds -/
structure RSt (w0 : World) (v : Value) (run : Bool) (L : List (List Rd)) (W : World) : Prop where
  off : run = false → ∃ vs, Cls w0 v vs L W
  on : run = true → ∃ gv cv n vs u L' r B, L = L' ++ [r] ∧ v = .slice (some ⟨gv, 0, none⟩) (n + 1) cv ∧ Opn w0 gv cv n vs u L' r B W
theorem take_flat {α β : Type} (f : α → List β) {l : List α} {q : Nat} {x : α} (h : l[q]? = some x) : (l.take (q + 1)).flatMap f = (l.take q).flatMap f ++ f x := by
  obtain ⟨hq, rfl⟩ := List.getElem?_eq_some_iff.1 h
  rw [List.take_succ_eq_append_getElem hq, List.flatMap_append]
  simp
set_option maxRecDepth 100000 in
set_option maxHeartbeats 4000000 in
theorem rreadings_c (l : List Ev) (hl : l.length ≤ 80) (A : Option Addr) (cap : Nat) (w : World) (C : Evs w A l) : Calls Tryd.prog 23 #[.slice A l.length cap] w (GivesR (rows l (atsL l 0) l.length) w) := by
  obtain ⟨i51, hti, hz0, hz1, hz2⟩ := info_parts info51
  obtain ⟨i53, gti, gz0, gz1, gz2⟩ := info_parts info53
  have HC := Lib.hid C
  have hl3 : (l.length : Int) ≤ 80 := by omega
  clear C
  go_enter Tryd.func23, Tryd.ntmps23
  go_wp2_with fail
  refine (rattempts_c l hl A cap _ HC.out).mono ?_
  rintro e w1 ⟨A2, cap2, rfl, C2, hb1, -⟩
  have HB1 := Lib.hid hb1
  have HC2 := Lib.hid C2
  have HSO := Lib.hid ((ats_sorted (l := l) (l.length - 0) 0 rfl).1)
  have HIN := Lib.hid (ats_in (l := l) l.length 0 (by omega))
  have hal := atsL_len l
  generalize atsL l 0 = a at *
  have ha80 : (a.length : Int) ≤ 80 := by omega
  have HA80 := Lib.hid (show a.length ≤ 80 from by omega)
  clear hal hb1 C2
  go_wp2_with fail
  go_loopw [3, 5, 16] (fun s3 s5 s16 wr => ∃ (i : Nat) (run : Bool), i ≤ l.length ∧ s16 = .int .i64 i ∧ s5 = .bool run ∧ Runs l i run ∧ Below w1.heap.size w1 wr ∧ RSt w1 s3 run (rowsTo l a i) wr) (fun _ _ s16 _ => l.length - (intOf s16).toNat)
  case atStart => exact ⟨0, false, by omega, rfl, rfl, Runs.zero l, Below.refl _ _, ⟨fun _ => ⟨[], Cls.zero _⟩, fun h => by cases h⟩⟩
  case round =>
    obtain ⟨i, run, hi, rfl, rfl, hrun, hb, R⟩ := hrel
    by_cases hlt : i < l.length
    · have HE := Lib.hid (List.getElem?_eq_getElem hlt)
      obtain ⟨ad, rfl, EA⟩ := (HC.out.next (bt HB1.out hb)).at_ i _ HE.out
      have HST := Lib.hid (step_of HSO.out HE.out hrun)
      have HRL := Lib.hid (rowsTo_le HIN.out HA80.out hl i)
      have HRN := Lib.hid (rowsTo_len l a i)
      generalize l[i] = e at *
      obtain ⟨_, c0, c1, c2, c3, c4, c5⟩ := EA
      by_cases h3 : e.kind = 3
      · obtain ⟨L, hL, hL2⟩ := HST.out.st h3
        obtain ⟨vs, K⟩ : ∃ vs, Cls w1 u3 vs (rowsTo l a i) wr := by
          cases run
          · exact R.off rfl
          · obtain ⟨gv, cv, n, vs, u, L', r, B, hL, rfl, K⟩ := R.on rfl
            exact ⟨_, by rw [hL]; exact K.cls⟩
        rw [hL] at K
        have hvl : vs.length ≤ 80 := by have h1 := HRN.out; rw [hL, ← K.fin.len] at h1; omega
        have HN6 := Lib.hid (fun h => HST.out.nx false (by rw [if_pos h]))
        have HN7 := Lib.hid (fun h => HST.out.nx true (by rw [if_neg h, if_pos h3]))
        have k3 : (e.kind == 3) = true := by simpa using h3
        have hown := K.own
        have hbs := hb.size
        have HKA := Lib.hid ((K.next (ba wr (.cells #[.int .i64 e.kind, .int .i64 e.time, .int .i64 e.task, .int .i64 e.n, .int .i16 e.value, .int .i64 e.port] 26))).next (ba _ (.cells #[.slice none 0 0] 51)))
        have HB0 := Lib.hid ((BX.new wr #[.int .i64 e.kind, .int .i64 e.time, .int .i64 e.task, .int .i64 e.n, .int .i16 e.value, .int .i64 e.port] 26).next (ba _ (.cells #[.slice none 0 0] 51)))
        have hnew := cell_one_new (wr.alloc (.cells #[.int .i64 e.kind, .int .i64 e.time, .int .i64 e.task, .int .i64 e.n, .int .i16 e.value, .int .i64 e.port] 26)) (.slice none 0 0) 51
        rw [World.size_alloc] at hnew
        have HN0 := Lib.hid hnew
        clear h3 K R hnew hL
        go_wp2_with (at_builtin; refine wpList_append_own _ rfl (.tmp 24) (.tmp 25) 49 rfl w1.heap.size 51 i51 (.slice none 0 0) 1 24 Tryd.underlying49 hti hz0 hz1 hz2 rfl (by decide) _ vs.length vs rfl ((hown.alloc _).alloc _) ⟨wr.heap.size + 1, 0, none⟩ 1 1 [.slice none 0 0] rfl rfl HN0.out (by intro u hu; simp at hu; subst hu; rfl) (by unfold maxLen; omega) (by omega) (by simp; omega) ?_; intro v1 w7 hown1 hgrow1 hnil1; obtain ⟨gv, cv, rfl, O⟩ := HKA.out.grown rfl hgrow1 hown1)
        have HBX := Lib.hid (HB0.out.grown hgrow1 (HB0.out.ne HKA.out.own (by decide)))
        generalize wr.heap.size = XB at *
        obtain ⟨r, hr⟩ : ∃ r : List Rd, r = [] := ⟨[], rfl⟩
        obtain ⟨u, hu⟩ : ∃ u : Value, u = .slice none 0 0 := ⟨_, rfl⟩
        rw [← hr, ← hu] at O
        have HL2 := Lib.hid (show rowsTo l a (i + 1) = L ++ [r ++ a.flatMap (at1 l i)] from by rw [hr]; exact hL2)
        have hrl : r.length ≤ 6400 := by rw [hr]; simp
        have hn80 : vs.length + 1 ≤ 81 := by omega
        have HO := Lib.hid O
        generalize w7.heap.size = B at *
        generalize vs.length = n at *
        clear hr hu hL2 O hown hown1 hgrow1 hnil1 HKA HB0 c0 c1 c2 c3 c4 c5
        go_wp2_with fail
        go_loopw [29] (fun s29 W => ∃ (q : Nat) (u2 : Value), q ≤ a.length ∧ s29 = .int .i64 q ∧ BX XB #[.int .i64 e.kind, .int .i64 e.time, .int .i64 e.task, .int .i64 e.n, .int .i16 e.value, .int .i64 e.port] 26 W ∧ Opn w1 gv cv n vs u2 L (r ++ (a.take q).flatMap (at1 l i)) B W) (fun s29 _ => a.length - (intOf s29).toNat)
        case atStart => exact ⟨0, _, by omega, rfl, HBX.out, by simpa using HO.out⟩
        case round =>
          obtain ⟨q, u2, hq, rfl, BE, K⟩ := hrel
          by_cases hlt2 : q < a.length
          · have hx := List.getElem?_eq_getElem hlt2
            have HTF := Lib.hid (take_flat (at1 l i) hx)
            have hxi := HIN.out _ (List.getElem_mem hlt2)
            have HQL := Lib.hid (flat_le (at1 l i) l.length (a.take q) (fun y hy => at1_len HIN.out i y (List.mem_of_mem_take hy)))
            obtain ⟨ad2, rfl, E2⟩ := (HC2.out.next K.below).at_ q _ hx
            generalize a[q] = x at *
            obtain ⟨xf, xt, xk, xc⟩ := x
            simp only at hxi E2
            obtain ⟨hxi1, hxi2⟩ := hxi
            have HKN := Lib.hid (K.next (ba wr (.cells #[.int .i64 xf, .int .i64 xt, .int .i64 xk, .bool xc] 47)))
            have HBN := Lib.hid (BE.next (ba wr (.cells #[.int .i64 xf, .int .i64 xt, .int .i64 xk, .bool xc] 47)))
            have HAX := Lib.hid (BX.new wr #[.int .i64 xf, .int .i64 xt, .int .i64 xk, .bool xc] 47)
            obtain ⟨_, d0, d1, d2, d3⟩ := E2
            clear K hx BE
            by_cases hti2 : xt = i
            · cases xc
              · have HAT := Lib.hid (show at1 l i ⟨xf, xt, xk, false⟩ = [] from by unfold at1; simp)
                have z1 : ((xt : Int) == (i : Int)) = true := by simp [hti2]
                have z2 : ((xt : Int) != (i : Int)) = false := by simp [hti2]
                clear hti2
                go_wp2_with fail
                go_roundw
                case rel => exact ⟨q + 1, u2, by omega, by go_num, HBN.out, by rw [HTF.out, HAT.out, List.append_nil]; exact HKN.out⟩
                case measure => simp [intOf]; omega
              · have HAT := Lib.hid (show at1 l i ⟨xf, xt, xk, true⟩ = rdR l xf (xt + 1 - xf) from by unfold at1; simp [hti2]; rfl)
                have z1 : ((xt : Int) == (i : Int)) = true := by simp [hti2]
                have z2 : ((xt : Int) != (i : Int)) = false := by simp [hti2]
                clear hti2
                go_wp2_with fail
                generalize wr.heap.size = X at *
                go_loopw [10] (fun s10 W => ∃ (k : Nat) (u4 : Value), xf ≤ k ∧ k ≤ xt + 1 ∧ s10 = .int .i64 k ∧ BX XB #[.int .i64 e.kind, .int .i64 e.time, .int .i64 e.task, .int .i64 e.n, .int .i16 e.value, .int .i64 e.port] 26 W ∧ BX X #[.int .i64 xf, .int .i64 xt, .int .i64 xk, .bool true] 47 W ∧ Opn w1 gv cv n vs u4 L ((r ++ (a.take q).flatMap (at1 l i)) ++ rdR l xf (k - xf)) B W) (fun s10 _ => xt + 1 - (intOf s10).toNat)
                case atStart => exact ⟨xf, u2, by omega, by omega, rfl, HBN.out, HAX.out, by simpa [rdR] using HKN.out⟩
                case round =>
                  obtain ⟨k, u4, hfk, hkt, rfl, BE, X1, K⟩ := hrel
                  have x1 : wr.cell? ⟨X, 1, none⟩ = some (.int .i64 xt) := (X1.cell 1).trans rfl
                  by_cases hle : k ≤ xt
                  · have hkl : k < l.length := by omega
                    have HE2 := Lib.hid (List.getElem?_eq_getElem hkl)
                    obtain ⟨ad', qq, EK⟩ := (HC.out.next (bt HB1.out K.below)).at_ k _ HE2.out
                    cases qq
                    generalize l[k] = y at *
                    have HRS := Lib.hid (show rdR l xf (k + 1 - xf) = rdR l xf (k - xf) ++ rdE y from by
                      have := rdR_succ (l := l) (i := xf) (d := k - xf) (e := y) (by rw [show xf + (k - xf) = k from by omega]; exact HE2.out)
                      rw [show k + 1 - xf = k - xf + 1 from by omega]; exact this)
                    obtain ⟨_, c0, c1, c2, c3, c4, c5⟩ := EK
                    by_cases hy4 : y.kind = 4
                    · have HRE := Lib.hid (show rdE y = [(y.port, y.value)] from by unfold rdE; rw [if_pos hy4])
                      have y4 : (y.kind == 4) = true := by simpa using hy4
                      have hrk := rdR_len l xf (k - xf)
                      have hql := HQL.out
                      have hqa : (a.take q).length * l.length ≤ 80 * 80 := Nat.mul_le_mul (by rw [List.length_take]; have := HA80.out; omega) hl
                      have hRL : ((r ++ (a.take q).flatMap (at1 l i)) ++ rdR l xf (k - xf)).length ≤ 13000 := by rw [List.length_append, List.length_append]; omega
                      have HRQ := Lib.hid (show ((r ++ (a.take q).flatMap (at1 l i)) ++ rdR l xf (k - xf)) ++ [(y.port, y.value)] = (r ++ (a.take q).flatMap (at1 l i)) ++ rdR l xf (k + 1 - xf) from by rw [HRS.out, HRE.out, List.append_assoc])
                      generalize (r ++ (a.take q).flatMap (at1 l i)) ++ rdR l xf (k - xf) = R at *
                      have hlast := K.last
                      have hne := K.ne
                      have hgv := K.lt
                      have t0 := K.cell
                      have t1 := K.frozen
                      have hBW := K.le
                      have hnn : (n : Int) < (n : Int) + 1 := by omega
                      have a0 := ((bcell (ba wr (.cells #[.int .i64 y.port, .int .i16 y.value] 53))).1 gv n hgv).trans t0
                      have a1 := ((bcell (ba wr (.cells #[.int .i64 y.port, .int .i16 y.value] 53))).2 gv n hgv).trans t1
                      have HKA := Lib.hid ((K.next (ba wr (.cells #[.int .i64 y.port, .int .i16 y.value] 53))).next (World.drewB _))
                      have HXA := Lib.hid ((X1.next (ba wr (.cells #[.int .i64 y.port, .int .i16 y.value] 53))).next (World.drewB _))
                      have HEA := Lib.hid ((BE.next (ba wr (.cells #[.int .i64 y.port, .int .i16 y.value] 53))).next (World.drewB _))
                      have HN1 := Lib.hid (X1.ne K.last (by decide))
                      have HN2 := Lib.hid (BE.ne K.last (by decide))
                      have HN3 := Lib.hid (show gv ≠ X from fun q => X1.ne K.own (by decide) (by rw [q]; rfl))
                      have HN4 := Lib.hid (show gv ≠ XB from fun q => BE.ne K.own (by decide) (by rw [q]; rfl))
                      clear hy4 K hrk hql hqa X1 BE HRS HRE
                      go_wp2_with fail
                      go_region_law ((refine step_append_lies _ (by rfl) _ _ _ (by rfl) B 53 i53 _ 2 16 Tryd.underlying51 gti gz0 gz1 gz2 rfl (by omega) u4 R.length (flatD R) (by rfl) ((hlast.alloc _).drew) ⟨wr.heap.size, 0, none⟩ 1 1 [.int .i64 y.port, .int .i16 y.value] (by rfl) (by rfl) (World.news_of_block (cs := #[.int .i64 y.port, .int .i16 y.value]) (t := 53) (fr := (0, 0)) (heap_alloc_new wr _)) (by simp [Value.oneCell']) (by omega) (by unfold maxLen; omega) (by omega) (by simp; omega) (wr.heap.size + 1) (by simp) ?_; intro gg cap2 w2 hown1 hgrow hat hlt2; have s0 := (hgrow.cell_far ⟨gv, n, none⟩ (by simp; omega) (Ne.symm hne)).trans a0; have s1 := (hgrow.frozen_far ⟨gv, n, none⟩ (by simp; omega) (Ne.symm hne)).trans a1))
                      all_goals
                        have HK2 := Lib.hid (HKA.out.push (x := (y.port, y.value)) hgrow hown1)
                        have HX2 := Lib.hid ((HXA.out.grown hgrow HN1.out).set (p := ⟨gv, n, none⟩) HN3.out (.slice (some ⟨gg, 0, none⟩) (R.length + 1) cap2))
                        have HE2' := Lib.hid ((HEA.out.grown hgrow HN2.out).set (p := ⟨gv, n, none⟩) HN4.out (.slice (some ⟨gg, 0, none⟩) (R.length + 1) cap2))
                        clear hown1 hgrow hat hlt2 s0 s1 a0 a1 t0 t1 hlast
                        go_wp2_with fail
                        go_roundw
                        case rel => exact ⟨k + 1, _, by omega, by omega, by go_num, HE2'.out, HX2.out, by rw [← HRQ.out]; exact HK2.out⟩
                        case measure => simp [intOf]; omega
                    · have HRE := Lib.hid (show rdE y = [] from by unfold rdE; rw [if_neg hy4])
                      have y4 : (y.kind == 4) = false := by simpa using hy4
                      have HKK := Lib.hid K
                      have HXX := Lib.hid X1
                      have HBB := Lib.hid BE
                      clear hy4 K X1 BE
                      go_wp2_with fail
                      go_roundw
                      case rel => exact ⟨k + 1, u4, by omega, by omega, by go_num, HBB.out, HXX.out, by rw [HRS.out, HRE.out, List.append_nil]; exact HKK.out⟩
                      case measure => simp [intOf]; omega
                  · obtain rfl : k = xt + 1 := by omega
                    have HKK := Lib.hid K
                    have HBB := Lib.hid BE
                    clear K BE X1
                    go_wp2_with fail
                    go_roundw
                    case rel => exact ⟨q + 1, u4, by omega, by go_num, HBB.out, by rw [HTF.out, HAT.out, ← List.append_assoc]; exact HKK.out⟩
                    case measure => simp [intOf]; omega
            · have HAT := Lib.hid (show at1 l i ⟨xf, xt, xk, xc⟩ = [] from by unfold at1; simp [hti2])
              have z1 : ((xt : Int) == (i : Int)) = false := by simp; omega
              have z2 : ((xt : Int) != (i : Int)) = true := by simp; omega
              clear hti2
              go_wp2_with fail
              go_roundw
              case rel => exact ⟨q + 1, u2, by omega, by go_num, HBN.out, by rw [HTF.out, HAT.out, List.append_nil]; exact HKN.out⟩
              case measure => simp [intOf]; omega
          · obtain rfl : q = a.length := by omega
            rw [List.take_length] at K
            have HK := Lib.hid K
            have e0 : wr.cell? ⟨XB, 0, none⟩ = some (.int .i64 e.kind) := (BE.cell 0).trans rfl
            clear K BE
            by_cases h6 : e.kind = 6
            · have k6 : (e.kind == 6) = true := by simpa using h6
              have HNX := Lib.hid (HN6.out h6)
              clear h6
              go_wp2_with fail
              go_roundw
              case rel => exact ⟨i + 1, false, by omega, by go_num, rfl, HNX.out, HK.out.below, ⟨fun _ => ⟨_, by rw [HL2.out]; exact HK.out.cls⟩, fun h => by cases h⟩⟩
              case measure => simp [intOf]; omega
            · have k6 : (e.kind == 6) = false := by simpa using h6
              have HNX := Lib.hid (HN7.out h6)
              clear h6
              go_wp2_with fail
              go_roundw
              case rel => exact ⟨i + 1, true, by omega, by go_num, rfl, HNX.out, HK.out.below, ⟨fun h => (by cases h), fun _ => ⟨gv, cv, n, vs, u2, L, _, B, HL2.out, rfl, HK.out⟩⟩⟩
              case measure => simp [intOf]; omega
      · cases run
        · obtain ⟨vs, K⟩ := R.off rfl
          have HNO := Lib.hid (HST.out.no h3 rfl)
          have HN6 := Lib.hid (fun h => HST.out.nx false (by rw [if_pos h]))
          have HN7 := Lib.hid (fun h => HST.out.nx false (by rw [if_neg h, if_neg h3]))
          have k3 : (e.kind == 3) = false := by simpa using h3
          have HK0 := Lib.hid (K.next (ba wr (.cells #[.int .i64 e.kind, .int .i64 e.time, .int .i64 e.task, .int .i64 e.n, .int .i16 e.value, .int .i64 e.port] 26)))
          have HBX := Lib.hid (BX.new wr #[.int .i64 e.kind, .int .i64 e.time, .int .i64 e.task, .int .i64 e.n, .int .i16 e.value, .int .i64 e.port] 26)
          clear h3 R K
          go_wp2_with fail
          generalize wr.heap.size = XB at *
          go_loopw [29] (fun s29 W => ∃ q : Nat, q ≤ a.length ∧ s29 = .int .i64 q ∧ BX XB #[.int .i64 e.kind, .int .i64 e.time, .int .i64 e.task, .int .i64 e.n, .int .i16 e.value, .int .i64 e.port] 26 W ∧ Cls w1 u3 vs (rowsTo l a i) W) (fun s29 _ => a.length - (intOf s29).toNat)
          case atStart => exact ⟨0, by omega, rfl, HBX.out, HK0.out⟩
          case round =>
            obtain ⟨q, hq, rfl, BE, K⟩ := hrel
            by_cases hlt2 : q < a.length
            · have hx := List.getElem?_eq_getElem hlt2
              obtain ⟨ad2, rfl, E2⟩ := (HC2.out.next K.below).at_ q _ hx
              generalize a[q] = x at *
              obtain ⟨xf, xt, xk, xc⟩ := x
              have HKN := Lib.hid (K.next (ba wr (.cells #[.int .i64 xf, .int .i64 xt, .int .i64 xk, .bool xc] 47)))
              have HBN := Lib.hid (BE.next (ba wr (.cells #[.int .i64 xf, .int .i64 xt, .int .i64 xk, .bool xc] 47)))
              obtain ⟨_, d0, d1, d2, d3⟩ := E2
              clear K hx BE
              by_cases hti2 : xt = i
              · have z1 : ((xt : Int) == (i : Int)) = true := by simp [hti2]
                have z2 : ((xt : Int) != (i : Int)) = false := by simp [hti2]
                clear hti2
                cases xc
                all_goals
                  go_wp2_with fail
                  go_roundw
                  case rel => exact ⟨q + 1, by omega, by go_num, HBN.out, HKN.out⟩
                  case measure => simp [intOf]; omega
              · have z1 : ((xt : Int) == (i : Int)) = false := by simp; omega
                have z2 : ((xt : Int) != (i : Int)) = true := by simp; omega
                clear hti2
                go_wp2_with fail
                go_roundw
                case rel => exact ⟨q + 1, by omega, by go_num, HBN.out, HKN.out⟩
                case measure => simp [intOf]; omega
            · obtain rfl : q = a.length := by omega
              have HK := Lib.hid K
              have e0 : wr.cell? ⟨XB, 0, none⟩ = some (.int .i64 e.kind) := (BE.cell 0).trans rfl
              clear K BE
              by_cases h6 : e.kind = 6
              · have k6 : (e.kind == 6) = true := by simpa using h6
                have HNX := Lib.hid (HN6.out h6)
                clear h6
                go_wp2_with fail
                go_roundw
                case rel => exact ⟨i + 1, false, by omega, by go_num, rfl, HNX.out, HK.out.below, ⟨fun _ => ⟨vs, by rw [HNO.out]; exact HK.out⟩, fun h => by cases h⟩⟩
                case measure => simp [intOf]; omega
              · have k6 : (e.kind == 6) = false := by simpa using h6
                have HNX := Lib.hid (HN7.out h6)
                clear h6
                go_wp2_with fail
                go_roundw
                case rel => exact ⟨i + 1, false, by omega, by go_num, rfl, HNX.out, HK.out.below, ⟨fun _ => ⟨vs, by rw [HNO.out]; exact HK.out⟩, fun h => by cases h⟩⟩
                case measure => simp [intOf]; omega
        · obtain ⟨L, r, hL, hL2⟩ := HST.out.go h3 rfl
          obtain ⟨gv, cv, n, vs, u, L', r', B, hL', rfl, O⟩ := R.on rfl
          obtain ⟨rfl, q⟩ := List.append_inj' (hL.symm.trans hL') rfl
          cases q
          have HL2 := Lib.hid hL2
          have hrl : r.length ≤ 6400 := HRL.out r (by rw [hL]; simp)
          have hn80 : n + 1 ≤ 81 := by have h1 := HRN.out; rw [hL, List.length_append, List.length_singleton, ← O.fin.len, O.hn] at h1; omega
          have HN6 := Lib.hid (fun h => HST.out.nx false (by rw [if_pos h]))
          have HN7 := Lib.hid (fun h => HST.out.nx true (by rw [if_neg h, if_neg h3]))
          have k3 : (e.kind == 3) = false := by simpa using h3
          have HO := Lib.hid (O.next (ba wr (.cells #[.int .i64 e.kind, .int .i64 e.time, .int .i64 e.task, .int .i64 e.n, .int .i16 e.value, .int .i64 e.port] 26)))
          have HBX := Lib.hid (BX.new wr #[.int .i64 e.kind, .int .i64 e.time, .int .i64 e.task, .int .i64 e.n, .int .i16 e.value, .int .i64 e.port] 26)
          clear hL hL2 hL' O R h3
          go_wp2_with fail
          generalize wr.heap.size = XB at *
          clear c0 c1 c2 c3 c4 c5
          go_wp2_with fail
          go_loopw [29] (fun s29 W => ∃ (q : Nat) (u2 : Value), q ≤ a.length ∧ s29 = .int .i64 q ∧ BX XB #[.int .i64 e.kind, .int .i64 e.time, .int .i64 e.task, .int .i64 e.n, .int .i16 e.value, .int .i64 e.port] 26 W ∧ Opn w1 gv cv n vs u2 L (r ++ (a.take q).flatMap (at1 l i)) B W) (fun s29 _ => a.length - (intOf s29).toNat)
          case atStart => exact ⟨0, _, by omega, rfl, HBX.out, by simpa using HO.out⟩
          case round =>
            obtain ⟨q, u2, hq, rfl, BE, K⟩ := hrel
            by_cases hlt2 : q < a.length
            · have hx := List.getElem?_eq_getElem hlt2
              have HTF := Lib.hid (take_flat (at1 l i) hx)
              have hxi := HIN.out _ (List.getElem_mem hlt2)
              have HQL := Lib.hid (flat_le (at1 l i) l.length (a.take q) (fun y hy => at1_len HIN.out i y (List.mem_of_mem_take hy)))
              obtain ⟨ad2, rfl, E2⟩ := (HC2.out.next K.below).at_ q _ hx
              generalize a[q] = x at *
              obtain ⟨xf, xt, xk, xc⟩ := x
              simp only at hxi E2
              obtain ⟨hxi1, hxi2⟩ := hxi
              have HKN := Lib.hid (K.next (ba wr (.cells #[.int .i64 xf, .int .i64 xt, .int .i64 xk, .bool xc] 47)))
              have HBN := Lib.hid (BE.next (ba wr (.cells #[.int .i64 xf, .int .i64 xt, .int .i64 xk, .bool xc] 47)))
              have HAX := Lib.hid (BX.new wr #[.int .i64 xf, .int .i64 xt, .int .i64 xk, .bool xc] 47)
              obtain ⟨_, d0, d1, d2, d3⟩ := E2
              clear K hx BE
              by_cases hti2 : xt = i
              · cases xc
                · have HAT := Lib.hid (show at1 l i ⟨xf, xt, xk, false⟩ = [] from by unfold at1; simp)
                  have z1 : ((xt : Int) == (i : Int)) = true := by simp [hti2]
                  have z2 : ((xt : Int) != (i : Int)) = false := by simp [hti2]
                  clear hti2
                  go_wp2_with fail
                  go_roundw
                  case rel => exact ⟨q + 1, u2, by omega, by go_num, HBN.out, by rw [HTF.out, HAT.out, List.append_nil]; exact HKN.out⟩
                  case measure => simp [intOf]; omega
                · have HAT := Lib.hid (show at1 l i ⟨xf, xt, xk, true⟩ = rdR l xf (xt + 1 - xf) from by unfold at1; simp [hti2]; rfl)
                  have z1 : ((xt : Int) == (i : Int)) = true := by simp [hti2]
                  have z2 : ((xt : Int) != (i : Int)) = false := by simp [hti2]
                  clear hti2
                  go_wp2_with fail
                  generalize wr.heap.size = X at *
                  go_loopw [10] (fun s10 W => ∃ (k : Nat) (u4 : Value), xf ≤ k ∧ k ≤ xt + 1 ∧ s10 = .int .i64 k ∧ BX XB #[.int .i64 e.kind, .int .i64 e.time, .int .i64 e.task, .int .i64 e.n, .int .i16 e.value, .int .i64 e.port] 26 W ∧ BX X #[.int .i64 xf, .int .i64 xt, .int .i64 xk, .bool true] 47 W ∧ Opn w1 gv cv n vs u4 L ((r ++ (a.take q).flatMap (at1 l i)) ++ rdR l xf (k - xf)) B W) (fun s10 _ => xt + 1 - (intOf s10).toNat)
                  case atStart => exact ⟨xf, u2, by omega, by omega, rfl, HBN.out, HAX.out, by simpa [rdR] using HKN.out⟩
                  case round =>
                    obtain ⟨k, u4, hfk, hkt, rfl, BE, X1, K⟩ := hrel
                    have x1 : wr.cell? ⟨X, 1, none⟩ = some (.int .i64 xt) := (X1.cell 1).trans rfl
                    by_cases hle : k ≤ xt
                    · have hkl : k < l.length := by omega
                      have HE2 := Lib.hid (List.getElem?_eq_getElem hkl)
                      obtain ⟨ad', qq, EK⟩ := (HC.out.next (bt HB1.out K.below)).at_ k _ HE2.out
                      cases qq
                      generalize l[k] = y at *
                      have HRS := Lib.hid (show rdR l xf (k + 1 - xf) = rdR l xf (k - xf) ++ rdE y from by
                        have := rdR_succ (l := l) (i := xf) (d := k - xf) (e := y) (by rw [show xf + (k - xf) = k from by omega]; exact HE2.out)
                        rw [show k + 1 - xf = k - xf + 1 from by omega]; exact this)
                      obtain ⟨_, c0, c1, c2, c3, c4, c5⟩ := EK
                      by_cases hy4 : y.kind = 4
                      · have HRE := Lib.hid (show rdE y = [(y.port, y.value)] from by unfold rdE; rw [if_pos hy4])
                        have y4 : (y.kind == 4) = true := by simpa using hy4
                        have hrk := rdR_len l xf (k - xf)
                        have hql := HQL.out
                        have hqa : (a.take q).length * l.length ≤ 80 * 80 := Nat.mul_le_mul (by rw [List.length_take]; have := HA80.out; omega) hl
                        have hRL : ((r ++ (a.take q).flatMap (at1 l i)) ++ rdR l xf (k - xf)).length ≤ 13000 := by rw [List.length_append, List.length_append]; omega
                        have HRQ := Lib.hid (show ((r ++ (a.take q).flatMap (at1 l i)) ++ rdR l xf (k - xf)) ++ [(y.port, y.value)] = (r ++ (a.take q).flatMap (at1 l i)) ++ rdR l xf (k + 1 - xf) from by rw [HRS.out, HRE.out, List.append_assoc])
                        generalize (r ++ (a.take q).flatMap (at1 l i)) ++ rdR l xf (k - xf) = R at *
                        have hlast := K.last
                        have hne := K.ne
                        have hgv := K.lt
                        have t0 := K.cell
                        have t1 := K.frozen
                        have hBW := K.le
                        have hnn : (n : Int) < (n : Int) + 1 := by omega
                        have a0 := ((bcell (ba wr (.cells #[.int .i64 y.port, .int .i16 y.value] 53))).1 gv n hgv).trans t0
                        have a1 := ((bcell (ba wr (.cells #[.int .i64 y.port, .int .i16 y.value] 53))).2 gv n hgv).trans t1
                        have HKA := Lib.hid ((K.next (ba wr (.cells #[.int .i64 y.port, .int .i16 y.value] 53))).next (World.drewB _))
                        have HXA := Lib.hid ((X1.next (ba wr (.cells #[.int .i64 y.port, .int .i16 y.value] 53))).next (World.drewB _))
                        have HEA := Lib.hid ((BE.next (ba wr (.cells #[.int .i64 y.port, .int .i16 y.value] 53))).next (World.drewB _))
                        have HN1 := Lib.hid (X1.ne K.last (by decide))
                        have HN2 := Lib.hid (BE.ne K.last (by decide))
                        have HN3 := Lib.hid (show gv ≠ X from fun q => X1.ne K.own (by decide) (by rw [q]; rfl))
                        have HN4 := Lib.hid (show gv ≠ XB from fun q => BE.ne K.own (by decide) (by rw [q]; rfl))
                        clear hy4 K hrk hql hqa X1 BE HRS HRE
                        go_wp2_with fail
                        go_region_law ((refine step_append_lies _ (by rfl) _ _ _ (by rfl) B 53 i53 _ 2 16 Tryd.underlying51 gti gz0 gz1 gz2 rfl (by omega) u4 R.length (flatD R) (by rfl) ((hlast.alloc _).drew) ⟨wr.heap.size, 0, none⟩ 1 1 [.int .i64 y.port, .int .i16 y.value] (by rfl) (by rfl) (World.news_of_block (cs := #[.int .i64 y.port, .int .i16 y.value]) (t := 53) (fr := (0, 0)) (heap_alloc_new wr _)) (by simp [Value.oneCell']) (by omega) (by unfold maxLen; omega) (by omega) (by simp; omega) (wr.heap.size + 1) (by simp) ?_; intro gg cap2 w2 hown1 hgrow hat hlt2; have s0 := (hgrow.cell_far ⟨gv, n, none⟩ (by simp; omega) (Ne.symm hne)).trans a0; have s1 := (hgrow.frozen_far ⟨gv, n, none⟩ (by simp; omega) (Ne.symm hne)).trans a1))
                        all_goals
                          have HK2 := Lib.hid (HKA.out.push (x := (y.port, y.value)) hgrow hown1)
                          have HX2 := Lib.hid ((HXA.out.grown hgrow HN1.out).set (p := ⟨gv, n, none⟩) HN3.out (.slice (some ⟨gg, 0, none⟩) (R.length + 1) cap2))
                          have HE2' := Lib.hid ((HEA.out.grown hgrow HN2.out).set (p := ⟨gv, n, none⟩) HN4.out (.slice (some ⟨gg, 0, none⟩) (R.length + 1) cap2))
                          clear hown1 hgrow hat hlt2 s0 s1 a0 a1 t0 t1 hlast
                          go_wp2_with fail
                          go_roundw
                          case rel => exact ⟨k + 1, _, by omega, by omega, by go_num, HE2'.out, HX2.out, by rw [← HRQ.out]; exact HK2.out⟩
                          case measure => simp [intOf]; omega
                      · have HRE := Lib.hid (show rdE y = [] from by unfold rdE; rw [if_neg hy4])
                        have y4 : (y.kind == 4) = false := by simpa using hy4
                        have HKK := Lib.hid K
                        have HXX := Lib.hid X1
                        have HBB := Lib.hid BE
                        clear hy4 K X1 BE
                        go_wp2_with fail
                        go_roundw
                        case rel => exact ⟨k + 1, u4, by omega, by omega, by go_num, HBB.out, HXX.out, by rw [HRS.out, HRE.out, List.append_nil]; exact HKK.out⟩
                        case measure => simp [intOf]; omega
                    · obtain rfl : k = xt + 1 := by omega
                      have HKK := Lib.hid K
                      have HBB := Lib.hid BE
                      clear K BE X1
                      go_wp2_with fail
                      go_roundw
                      case rel => exact ⟨q + 1, u4, by omega, by go_num, HBB.out, by rw [HTF.out, HAT.out, ← List.append_assoc]; exact HKK.out⟩
                      case measure => simp [intOf]; omega
              · have HAT := Lib.hid (show at1 l i ⟨xf, xt, xk, xc⟩ = [] from by unfold at1; simp [hti2])
                have z1 : ((xt : Int) == (i : Int)) = false := by simp; omega
                have z2 : ((xt : Int) != (i : Int)) = true := by simp; omega
                clear hti2
                go_wp2_with fail
                go_roundw
                case rel => exact ⟨q + 1, u2, by omega, by go_num, HBN.out, by rw [HTF.out, HAT.out, List.append_nil]; exact HKN.out⟩
                case measure => simp [intOf]; omega
            · obtain rfl : q = a.length := by omega
              rw [List.take_length] at K
              have HK := Lib.hid K
              have e0 : wr.cell? ⟨XB, 0, none⟩ = some (.int .i64 e.kind) := (BE.cell 0).trans rfl
              clear K BE
              by_cases h6 : e.kind = 6
              · have k6 : (e.kind == 6) = true := by simpa using h6
                have HNX := Lib.hid (HN6.out h6)
                clear h6
                go_wp2_with fail
                go_roundw
                case rel => exact ⟨i + 1, false, by omega, by go_num, rfl, HNX.out, HK.out.below, ⟨fun _ => ⟨_, by rw [HL2.out]; exact HK.out.cls⟩, fun h => by cases h⟩⟩
                case measure => simp [intOf]; omega
              · have k6 : (e.kind == 6) = false := by simpa using h6
                have HNX := Lib.hid (HN7.out h6)
                clear h6
                go_wp2_with fail
                go_roundw
                case rel => exact ⟨i + 1, true, by omega, by go_num, rfl, HNX.out, HK.out.below, ⟨fun h => (by cases h), fun _ => ⟨gv, cv, n, vs, u2, L, _, B, HL2.out, rfl, HK.out⟩⟩⟩
                case measure => simp [intOf]; omega
    · obtain rfl : i = l.length := by omega
      have HRW := Lib.hid (rowsTo_all l a)
      obtain ⟨vs, K⟩ : ∃ vs, Cls w1 u3 vs (rowsTo l a l.length) wr := by
        cases run
        · exact R.off rfl
        · obtain ⟨gv, cv, n, vs, u, L', r, B, hL, rfl, K⟩ := R.on rfl
          exact ⟨_, by rw [hL]; exact K.cls⟩
      rw [HRW.out] at K
      clear R
      go_wp2_with fail
      go_ret
      obtain ⟨A', cap', rfl, C'⟩ := Rws.of_own K.own K.fin
      exact ⟨A', cap', rfl, C', bt HB1.out hb⟩
end Go.Proofs.YtdfconiahfdhbaaDoor
