/-
  The reference's Valid.
-/
import Derived.Test.YtdfconiahfdhbaaDoorRev
namespace Go.Proofs.YtdfconiahfdhbaaDoor
open Go.RowKit
attribute [local go_sem ↓] Go.wp_at_zero Go.wp_at_succ

/-- an event, another in the making -/
structure EK (w : World) (X Y : Nat) (e o : Ev) (W : World) : Prop where
  below : Below w.heap.size w W
  e : EX X e W
  o : EX Y o W
theorem EK.next {w W W' : World} {X Y : Nat} {e o : Ev} (h : EK w X Y e o W) (hb : Below W.heap.size W W') : EK w X Y e o W' := ⟨bt h.below hb, h.e.next hb, h.o.next hb⟩
theorem EX.store {X : Nat} {e o : Ev} {w : World} (h : EX X o w) : EX X e ((((((w.setCell ⟨X, 0, none⟩ (.int .i64 e.kind)).setCell ⟨X, 1, none⟩ (.int .i64 e.time)).setCell ⟨X, 2, none⟩ (.int .i64 e.task)).setCell ⟨X, 3, none⟩ (.int .i64 e.n)).setCell ⟨X, 4, none⟩ (.int .i16 e.value)).setCell ⟨X, 5, none⟩ (.int .i64 e.port)) := by
  obtain ⟨hl, c0, c1, c2, c3, c4, c5, fr⟩ := h
  refine ⟨by simpa using hl, ?_, ?_, ?_, ?_, ?_, ?_, fun i => by simpa using fr i⟩ <;> go_simp
theorem EX.storeFar {X Y : Nat} {e o : Ev} {w : World} (h : EX X o w) (hne : Y ≠ X) : EX X o ((((((w.setCell ⟨Y, 0, none⟩ (.int .i64 e.kind)).setCell ⟨Y, 1, none⟩ (.int .i64 e.time)).setCell ⟨Y, 2, none⟩ (.int .i64 e.task)).setCell ⟨Y, 3, none⟩ (.int .i64 e.n)).setCell ⟨Y, 4, none⟩ (.int .i16 e.value)).setCell ⟨Y, 5, none⟩ (.int .i64 e.port)) :=
  (((((h.far hne _).far hne _).far hne _).far hne _).far hne _).far hne _
theorem store_below {B Y : Nat} {e : Ev} {w0 w : World} (h : Below B w0 w) (hY : B ≤ Y) : Below B w0 ((((((w.setCell ⟨Y, 0, none⟩ (.int .i64 e.kind)).setCell ⟨Y, 1, none⟩ (.int .i64 e.time)).setCell ⟨Y, 2, none⟩ (.int .i64 e.task)).setCell ⟨Y, 3, none⟩ (.int .i64 e.n)).setCell ⟨Y, 4, none⟩ (.int .i16 e.value)).setCell ⟨Y, 5, none⟩ (.int .i64 e.port)) :=
  (((((h.setCell hY _).setCell hY _).setCell hY _).setCell hY _).setCell hY _).setCell hY _
theorem EK.store {w W : World} {X Y : Nat} {e o p : Ev} (h : EK w X Y e o W) (hX : w.heap.size ≤ Y) (hne : Y ≠ X) : EK w X Y e p ((((((W.setCell ⟨Y, 0, none⟩ (.int .i64 p.kind)).setCell ⟨Y, 1, none⟩ (.int .i64 p.time)).setCell ⟨Y, 2, none⟩ (.int .i64 p.task)).setCell ⟨Y, 3, none⟩ (.int .i64 p.n)).setCell ⟨Y, 4, none⟩ (.int .i16 p.value)).setCell ⟨Y, 5, none⟩ (.int .i64 p.port)) :=
  ⟨store_below h.below hX, h.e.storeFar hne, h.o.store⟩
theorem with_l (e : Ev) (f n : Int) (hf : isF f) (hn : B64 n) (w : World) : Calls Tryd.prog 31 #[.agg #[.int .i64 e.kind, .int .i64 e.time, .int .i64 e.task, .int .i64 e.n, .int .i16 e.value, .int .i64 e.port], .int .i64 (rc f), .int .i64 n] w fun r w' => r = .returned (.agg #[.int .i64 (setE e f n).kind, .int .i64 (setE e f n).time, .int .i64 (setE e f n).task, .int .i64 (setE e f n).n, .int .i16 (setE e f n).value, .int .i64 (setE e f n).port]) ∧ Below w.heap.size w w' := with_c e f n hf hn w
theorem known_ne : ∀ k, 1 ≤ k → k < 13 → kindW k ≠ [] := by
  have : ∀ k, k < 13 → 1 ≤ k → kindW k ≠ [] := by decide
  exact fun k h1 h2 => this k h2 h1
set_option maxRecDepth 100000 in
set_option maxHeartbeats 4000000 in
theorem rvalid_c (e : Ev) (h : InE e) (w : World) : Calls Tryd.prog 12 #[e.v] w fun r w' => r = .returned (.bool (validE e)) ∧ Below w.heap.size w w' := by
  have K := EX.start w e 26
  have hB := ba w (.cells #[.int .i64 e.kind, .int .i64 e.time, .int .i64 e.task, .int .i64 e.n, .int .i16 e.value, .int .i64 e.port] 26)
  have HK := Lib.hid (And.intro K hB)
  obtain ⟨_, c0, c1, c2, c3, c4, c5, _⟩ := K
  unfold Ev.v
  clear hB
  have HKF := Lib.hid (show ∀ f ∈ kindF e.kind.toNat, isF f ∧ ∀ n, okR e.kind (rc f) n = okF f n from fun f hf => by
    by_cases hk : 1 ≤ e.kind ∧ e.kind < 13
    · exact And.intro (kindF_isF e.kind.toNat (by omega) f hf) (fun n => okR_rc hk hf n)
    · rw [(kind_out hk).2] at hf
      cases hf)
  have hlen : ((kindF e.kind.toNat).length : Int) ≤ 4 := by
    by_cases hk : 1 ≤ e.kind ∧ e.kind < 13
    · have := kindF_len e.kind.toNat (by omega); omega
    · rw [(kind_out hk).2]; decide
  have HV := Lib.hid (show validE e = (knownB e.kind && (decide (0 ≤ e.time ∧ e.time ≤ 1099511627776) && ((kindF e.kind.toNat).all (fun f => okF f (getE e f)) && eqE (onlyE e (kindF e.kind.toNat)) e))) from rfl)
  have HNE := Lib.hid (show (kindW e.kind.toNat).isEmpty = !knownB e.kind from by
    by_cases hk : 1 ≤ e.kind ∧ e.kind < 13
    · have h1 := known_ne e.kind.toNat (by omega) (by omega)
      have h2 : knownB e.kind = true := by simpa [knownB] using hk
      rw [h2]
      simpa using h1
    · rw [(kind_out hk).1]
      have h2 : knownB e.kind = false := by simpa [knownB] using hk
      rw [h2]; rfl)
  go_enter Tryd.func12, Tryd.ntmps12
  go_wp2_with fail
  refine (word_c _ _).mono ?_
  rintro r w1 ⟨A, cap, rfl, N, hb1⟩
  have K1 := HK.out.1.next hb1
  have B1 := bt HK.out.2 hb1
  have hlm : ((kindF e.kind.toNat).map rc).length = (kindF e.kind.toNat).length := by simp
  rw [hlm]
  have HN := Lib.hid N
  have hz1 : w.heap.size < w1.heap.size := K1.lt
  have HK1 := Lib.hid (And.intro K1 B1)
  obtain ⟨_, c0, c1, c2, c3, c4, c5, _⟩ := K1
  clear hb1 N HK B1
  generalize hM : kindF e.kind.toNat = M at *
  generalize hWS : kindW e.kind.toNat = ws at *
  clear hM hWS hlm
  go_wp2_with fail
  have hb2 := ba w1 (.cells #[.int .i64 e.kind, .int .i64 e.time, .int .i64 0, .int .i64 0, .int .i16 0, .int .i64 0] 26)
  have HS := Lib.hid (show EK w w.heap.size w1.heap.size e (onlyE e (M.take 0)) (w1.alloc (.cells #[.int .i64 e.kind, .int .i64 e.time, .int .i64 0, .int .i64 0, .int .i16 0, .int .i64 0] 26)) from ⟨bt HK1.out.2 hb2, HK1.out.1.next hb2, EX.start w1 (baseE e.kind e.time) 26⟩)
  have HBS := Lib.hid hb2
  have HN2 := Lib.hid (fun (j : Nat) (z : Int) (hj : (M.map rc)[j]? = some z) => HN.out.at_ j z hj)
  have hz0 := HK1.out.2.size
  clear hb2 HN HK1 c0 c1 c2 c3 c4 c5
  generalize w1.alloc (.cells #[.int .i64 e.kind, .int .i64 e.time, .int .i64 0, .int .i64 0, .int .i16 0, .int .i64 0] 26) = W0 at *
  generalize w1.heap.size = S at *
  go_loopw [21] (fun i wr => ∃ j : Nat, j ≤ M.length ∧ i = .int .i64 j ∧ EK w w.heap.size S e (onlyE e (M.take j)) wr ∧ (M.take j).all (fun f => okF f (getE e f)) = true ∧ Below S w1 wr) (fun i _ => M.length - (intOf i).toNat)
  case atStart => exact ⟨0, by omega, rfl, HS.out, rfl, HBS.out⟩
  case round =>
    obtain ⟨j, hj, rfl, K, hall, hbs⟩ := hrel
    have HALL := Lib.hid hall
    have HBW := Lib.hid hbs
    clear hall HS HBS
    by_cases hlt : j < M.length
    · obtain ⟨ad, rfl, had, hc⟩ := HN2.out j (rc M[j]) (by rw [List.getElem?_map, List.getElem?_eq_getElem hlt]; rfl)
      replace hc := (hbs.cell (by rw [block_of_add]; exact had)).trans hc
      clear hbs
      have HFL := Lib.hid (HKF.out M[j] (List.getElem_mem hlt))
      have HOT := Lib.hid (onlyE_take (e := e) hlt)
      have HVA := Lib.hid (valid_all (e := e) hlt)
      have HAT2 := Lib.hid (fun a => all_take (e := e) hlt a HALL.out)
      generalize M[j] = f at *
      generalize onlyE e (M.take j) = o at *
      have HB0 := Lib.hid K
      have B64g := getE_b h f
      go_wp2_with fail
      replace K := K.next wr.drewB
      have hsz : S ≤ wr.drew.heap.size := by have := K.o.lt; exact Nat.le_of_lt this
      have KB : Below S w1 wr.drew := HBW.out.drew
      have hSE : S ≠ w.heap.size := by omega
      have hrcf := isF_rc HFL.out.1
      go_region_held3 (fun w' => w'.cell? ⟨w.heap.size, 0, none⟩ = some (.int .i64 e.kind) ∧ w'.cell? ⟨w.heap.size, 1, none⟩ = some (.int .i64 e.time) ∧ w'.cell? ⟨w.heap.size, 2, none⟩ = some (.int .i64 e.task) ∧ w'.cell? ⟨w.heap.size, 3, none⟩ = some (.int .i64 e.n) ∧ w'.cell? ⟨w.heap.size, 4, none⟩ = some (.int .i16 e.value) ∧ w'.cell? ⟨w.heap.size, 5, none⟩ = some (.int .i64 e.port)) (first | exact ⟨K.e.c0, K.e.c1, K.e.c2, K.e.c3, K.e.c4, K.e.c5⟩ | go_keep)
        (first
          | (go_at_call 30; (with_reducible refine (rget_c e h f HFL.out.1 _).mono ?_); rintro r w2 ⟨rfl, hb2⟩; replace K := K.next hb2; replace KB := KB.trans (hb2.mono hsz))
          | (go_at_call 29; (with_reducible refine (inRange_c _ _ _ hrcf _).mono ?_); rintro r w3 ⟨rfl, rfl⟩; rw [HFL.out.2]))
      all_goals
        have HK3 := Lib.hid (And.intro K KB)
        clear K KB
        cases hok : okF f (getE e f)
        · have HF := Lib.hid (show validE e = false from by rw [HV.out, HVA.out hok]; simp)
          clear hok
          go_wp2_with fail
          go_ret
          exact ⟨ret_bool HF.out.symm, HK3.out.1.below⟩
        · have HA3 := Lib.hid (HAT2.out hok)
          clear hok
          go_wp2_with fail
          have K := HK3.out.1.next (World.drewB _)
          have KB : Below S w1 _ := HK3.out.2.drew
          have hsz2 := K.o.lt
          have frX := HK3.out.1.o.fr
          have fr0 := frX 0
          have fr1 := frX 1
          have fr2 := frX 2
          have fr3 := frX 3
          have fr4 := frX 4
          have fr5 := frX 5
          obtain ⟨_, ⟨_, c0, c1, c2, c3, c4, c5, _⟩, ⟨_, s0, s1, s2, s3, s4, s5, _⟩⟩ := HK3.out.1
          clear HK3 frX
          go_region_law (first
              | (go_simp; go_at_call 30; (with_reducible refine (rget_c e h f HFL.out.1 _).mono ?_); rintro r w4 ⟨rfl, hb4⟩; replace K := K.next hb4; replace KB := KB.trans (hb4.mono (Nat.le_of_lt hsz2)); replace hsz2 := K.o.lt; have frX := K.o.fr; have fr0 := frX 0; have fr1 := frX 1; have fr2 := frX 2; have fr3 := frX 3; have fr4 := frX 4; have fr5 := frX 5; obtain ⟨_, ⟨_, c0, c1, c2, c3, c4, c5, _⟩, ⟨_, s0, s1, s2, s3, s4, s5, _⟩⟩ := id K; clear frX)
              | (go_simp; go_at_call 31; (with_reducible refine (with_l o f _ HFL.out.1 B64g _).mono ?_); rintro r w5 ⟨rfl, hb5⟩; replace K := K.next hb5; replace KB := KB.trans (hb5.mono (Nat.le_of_lt hsz2)); replace hsz2 := K.o.lt; have frX := K.o.fr; have fr0 := frX 0; have fr1 := frX 1; have fr2 := frX 2; have fr3 := frX 3; have fr4 := frX 4; have fr5 := frX 5; obtain ⟨_, ⟨_, c0, c1, c2, c3, c4, c5, _⟩, ⟨_, s0, s1, s2, s3, s4, s5, _⟩⟩ := id K; clear frX))
          all_goals
            have HR := Lib.hid (And.intro (K.store (p := setE o f (getE e f)) (by omega) hSE) (store_below (e := setE o f (getE e f)) KB (Nat.le_refl _)))
            clear K KB
            go_wp2_with fail
            go_roundw
            case rel => exact ⟨j + 1, by omega, by go_num, by rw [HOT.out]; exact HR.out.1, HA3.out, HR.out.2⟩
            case measure => simp [intOf]; omega
    · obtain rfl : j = M.length := by omega
      rw [List.take_length] at K HALL
      have HKX := Lib.hid K
      obtain ⟨_, ⟨_, c0, c1, c2, c3, c4, c5, _⟩, ⟨_, s0, s1, s2, s3, s4, s5, _⟩⟩ := K
      have hv1 := HV.out
      rw [HALL.out] at hv1
      generalize onlyE e M = o at *
      cases hkn : knownB e.kind
      · have HF := Lib.hid (show validE e = false from by rw [hv1, hkn]; rfl)
        have hie : ws.isEmpty = true := by rw [HNE.out, hkn]; rfl
        have hie2 : ws = [] := by simpa using hie
        clear hkn hv1
        go_wp2_with fail
        go_ret
        exact ⟨ret_bool HF.out.symm, HKX.out.below⟩
      · have hie : ws.isEmpty = false := by rw [HNE.out, hkn]; rfl
        have hie2 : ¬ ws = [] := by simpa using hie
        rw [hkn] at hv1
        clear hkn
        by_cases t0 : 0 ≤ e.time
        · by_cases t1 : e.time ≤ 1099511627776
          · have hv2 : validE e = eqE o e := by rw [hv1, show decide (0 ≤ e.time ∧ e.time ≤ 1099511627776) = true from by simp; omega]; rfl
            clear hv1
            by_cases hoe : o = e
            · subst hoe
              have HF2 := Lib.hid (show validE o = true from by rw [hv2, eqE_iff])
              clear hv2
              go_wp2_with fail
              go_ret
              exact ⟨ret_bool HF2.out.symm, HKX.out.below⟩
            · have HF2 := Lib.hid (show validE e = false from by rw [hv2, Bool.eq_false_iff]; exact fun h => hoe (eqE_iff.1 h))
              have HOE := Lib.hid hoe
              clear hoe hv2
              go_wp2_with fail
              all_goals go_ret
              all_goals first
                | exact ⟨ret_bool HF2.out.symm, HKX.out.below⟩
                | (exfalso; exact HOE.out (eqE_iff.1 (by unfold eqE; simp [*])))
          · have HF := Lib.hid (show validE e = false from by rw [hv1, show decide (0 ≤ e.time ∧ e.time ≤ 1099511627776) = false from by simp; omega]; rfl)
            clear hv1
            go_wp2_with fail
            go_ret
            exact ⟨ret_bool HF.out.symm, HKX.out.below⟩
        · have HF := Lib.hid (show validE e = false from by rw [hv1, show decide (0 ≤ e.time ∧ e.time ≤ 1099511627776) = false from by simp; omega]; rfl)
          clear hv1
          go_wp2_with fail
          go_ret
          exact ⟨ret_bool HF.out.symm, HKX.out.below⟩
end Go.Proofs.YtdfconiahfdhbaaDoor
