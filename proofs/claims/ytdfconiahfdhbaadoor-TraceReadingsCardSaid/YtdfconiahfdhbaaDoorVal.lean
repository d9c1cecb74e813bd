/-
  Valid: an event is valid by itself.
-/
import Derived.Test.YtdfconiahfdhbaaDoorEvt
namespace Go.Proofs.YtdfconiahfdhbaaDoor
open Go.RowKit
attribute [local go_sem ↓] Go.wp_at_zero Go.wp_at_succ

def eqE (a b : Ev) : Bool := a.kind == b.kind && (a.time == b.time && (a.task == b.task && (a.n == b.n && (a.value == b.value && a.port == b.port))))
@[go_sem] theorem eq26 (a b : Ev) (w : World) : (Op.equalIn 10000 26 (.agg #[.int .i64 a.kind, .int .i64 a.time, .int .i64 a.task, .int .i64 a.n, .int .i16 a.value, .int .i64 a.port]) (.agg #[.int .i64 b.kind, .int .i64 b.time, .int .i64 b.task, .int .i64 b.n, .int .i16 b.value, .int .i64 b.port])).run Tryd.prog w = .ok (eqE a b) w := by
  unfold eqE
  obtain ⟨ak, at_, aa, an, av, ap⟩ := a
  obtain ⟨bk, bt, ba, bn, bv, bp⟩ := b
  have u3 := Tryd.underlying3
  have a3 := Tryd.isAgg3
  have z3 := Tryd.sizeOf3
  have u2 := Tryd.underlying2
  have a2 := Tryd.isAgg2
  have z2 := Tryd.sizeOf2
  have u24 := Tryd.underlying24
  have a24 := Tryd.isAgg24
  have z24 := Tryd.sizeOf24
  have hS : Tryd.prog.underlying 26 = some (.struct (Tryd.prog.fieldsOf 26)) := by kernel_rfl
  have hp : Tryd.prog.stoodInHeld 26 = false := by kernel_rfl
  rw [show (10000 : Nat) = 9999 + 1 from rfl, run_equalIn_agg w 9999 26 _ _ hS hp]
  simp only [Program.fieldsOf, Tryd.underlying26]
  go_simp
  by_cases h1 : ak = bk <;> by_cases h2 : at_ = bt <;> by_cases h3 : aa = ba <;> by_cases h4 : an = bn <;> by_cases h5 : av = bv <;> by_cases h6 : ap = bp <;> simp [h1, h2, h3, h4, h5, h6]
theorem eqE_iff {a b : Ev} : eqE a b = true ↔ a = b := by
  obtain ⟨ak, at_, aa, an, av, ap⟩ := a
  obtain ⟨bk, bt, ba, bn, bv, bp⟩ := b
  unfold eqE
  simp
def knownB (k : Int) : Bool := decide (1 ≤ k ∧ k < 13)
theorem known_c (k : Int) (w : World) : Calls Tryd.prog 25 #[.int .i64 k] w fun r w' => r = .returned (.bool (knownB k)) ∧ w = w' := by
  go_enter Tryd.func25, Tryd.ntmps25
  go_wp2_with fail
  all_goals go_ret
  all_goals exact ⟨ret_bool (by unfold knownB; simp; try omega), rfl⟩
/-- an event with its kind and time alone -/
def baseE (k t : Int) : Ev := ⟨k, t, 0, 0, 0, 0⟩
/-- the event with the given fields alone -/
def onlyE (e : Ev) (l : List Int) : Ev := l.foldl (fun s f => setE s f (getE e f)) (baseE e.kind e.time)
def flds (e : Ev) : List Int := kindF e.kind.toNat
def validE (e : Ev) : Bool := knownB e.kind && (decide (0 ≤ e.time ∧ e.time ≤ 1099511627776) && ((flds e).all (fun f => okF f (getE e f)) && eqE (onlyE e (flds e)) e))
theorem onlyE_snoc (e : Ev) (l : List Int) (f : Int) : onlyE e (l ++ [f]) = setE (onlyE e l) f (getE e f) := by unfold onlyE; rw [List.foldl_append]; rfl
theorem kindF_isF : ∀ k, k < 13 → ∀ f ∈ kindF k, isF f := by
  intro k hk f hf
  have : ∀ k, k < 13 → ∀ f ∈ kindF k, f = 0 ∨ f = 1 ∨ f = 2 ∨ f = 3 ∨ f = 4 := by decide
  exact this k hk f hf
theorem kindF_len : ∀ k, k < 13 → (kindF k).length ≤ 4 := by decide
theorem get_l (e : Ev) (h : InE e) (f : Int) (w : World) : Calls Tryd.prog 27 #[.agg #[.int .i64 e.kind, .int .i64 e.time, .int .i64 e.task, .int .i64 e.n, .int .i16 e.value, .int .i64 e.port], .int .i64 f] w fun r w' => r = .returned (.int .i64 (getE e f)) ∧ Below w.heap.size w w' := get_c e h f w
theorem EX.start (w : World) (e : Ev) (t : TypeId) : EX w.heap.size e (w.alloc (.cells #[.int .i64 e.kind, .int .i64 e.time, .int .i64 e.task, .int .i64 e.n, .int .i16 e.value, .int .i64 e.port] t)) := EX.new w e t
theorem onlyE_take {e : Ev} {l : List Int} {j : Nat} (hj : j < l.length) : onlyE e (l.take (j + 1)) = setE (onlyE e (l.take j)) l[j] (getE e l[j]) := by rw [List.take_succ_eq_append_getElem hj, onlyE_snoc]
theorem valid_all {e : Ev} {l : List Int} {j : Nat} (hj : j < l.length) (h : okF l[j] (getE e l[j]) = false) : l.all (fun f => okF f (getE e f)) = false := by
  rw [List.all_eq_false]
  exact ⟨l[j], List.getElem_mem hj, by simp [h]⟩
theorem all_take {e : Ev} {l : List Int} {j : Nat} (hj : j < l.length) (h : okF l[j] (getE e l[j]) = true) (ha : (l.take j).all (fun f => okF f (getE e f)) = true) : (l.take (j + 1)).all (fun f => okF f (getE e f)) = true := by
  rw [List.take_succ_eq_append_getElem hj, List.all_append, ha]
  simp [h]
set_option maxRecDepth 100000 in
set_option maxHeartbeats 2000000 in
theorem valid_c (e : Ev) (h : InE e) (w : World) (hk : KTab w) : Calls Tryd.prog 11 #[e.v] w fun r w' => r = .returned (.bool (validE e)) ∧ Below w.heap.size w w' := by
  have K := EX.start w e 26
  have hB := ba w (.cells #[.int .i64 e.kind, .int .i64 e.time, .int .i64 e.task, .int .i64 e.n, .int .i16 e.value, .int .i64 e.port] 26)
  have HKT := Lib.hid (hk.next hB)
  have HKB := Lib.hid hB
  have HK := Lib.hid K
  obtain ⟨_, c0, c1, c2, c3, c4, c5, _⟩ := K
  unfold Ev.v
  clear hB
  cases hkn : knownB e.kind
  · have HF := Lib.hid (show validE e = false from by unfold validE; rw [hkn]; rfl)
    have HN := Lib.hid hkn
    clear hkn
    go_enter Tryd.func11, Tryd.ntmps11
    go_wp2_with fail
    refine (known_c _ _).mono ?_
    rintro r w1 ⟨rfl, rfl⟩
    rw [HN.out]
    go_wp2_with fail
    go_ret
    exact ⟨ret_bool HF.out.symm, HKB.out⟩
  · have hkb : 1 ≤ e.kind ∧ e.kind < 13 := by simpa [knownB] using hkn
    have HN := Lib.hid hkn
    have b1 : (0 : Int) ≤ e.kind := by omega
    have b2 : e.kind < 13 := hkb.2
    clear hkn hkb
    by_cases t0 : e.time < 0
    · have HF := Lib.hid (show validE e = false from by unfold validE; rw [show decide (0 ≤ e.time ∧ e.time ≤ 1099511627776) = false from by simp; omega]; simp)
      go_enter Tryd.func11, Tryd.ntmps11
      go_wp2_with fail
      refine (known_c _ _).mono ?_
      rintro r w1 ⟨rfl, rfl⟩
      rw [HN.out]
      go_wp2_with fail
      go_ret
      exact ⟨ret_bool HF.out.symm, HKB.out⟩
    · by_cases t1 : 1099511627776 < e.time
      · have HF := Lib.hid (show validE e = false from by unfold validE; rw [show decide (0 ≤ e.time ∧ e.time ≤ 1099511627776) = false from by simp; omega]; simp)
        go_enter Tryd.func11, Tryd.ntmps11
        go_wp2_with fail
        refine (known_c _ _).mono ?_
        rintro r w1 ⟨rfl, rfl⟩
        rw [HN.out]
        go_wp2_with fail
        go_ret
        exact ⟨ret_bool HF.out.symm, HKB.out⟩
      · have HV := Lib.hid (show validE e = ((flds e).all (fun f => okF f (getE e f)) && eqE (onlyE e (flds e)) e) from by
          unfold validE
          rw [HN.out, show decide (0 ≤ e.time ∧ e.time ≤ 1099511627776) = true from by simp; omega]
          rfl)
        have hkk : e.kind.toNat < 13 := by omega
        obtain ⟨hc0, A, cap, hcell, hat⟩ := hk.at_ e.kind.toNat hkk
        have hlt0 := World.block_lt_of_cell? _ _ hcell
        replace hcell := ((bcell (ba w (.cells #[.int .i64 e.kind, .int .i64 e.time, .int .i64 e.task, .int .i64 e.n, .int .i16 e.value, .int .i64 e.port] 26))).1 0 (e.kind.toNat * 2 + 1) hlt0).trans hcell
        replace hcell := ((bcell (ba (w.alloc (.cells #[.int .i64 e.kind, .int .i64 e.time, .int .i64 e.task, .int .i64 e.n, .int .i16 e.value, .int .i64 e.port] 26)) (.cells #[.int .i64 e.kind, .int .i64 e.time, .int .i64 0, .int .i64 0, .int .i16 0, .int .i64 0] 26))).1 0 (e.kind.toNat * 2 + 1) (by simp)).trans hcell
        have HAT := Lib.hid hat
        clear hat hc0
        have HL := Lib.hid (kindF_len e.kind.toNat hkk)
        have HIF := Lib.hid (kindF_isF e.kind.toNat hkk)
        have hlen : ((kindF e.kind.toNat).length : Int) ≤ 4 := by have := HL.out; omega
        have hFE : flds e = kindF e.kind.toNat := rfl
        rw [hFE] at HV
        clear hFE
        have K2 := HK.out.next (ba _ (.cells #[.int .i64 e.kind, .int .i64 e.time, .int .i64 0, .int .i64 0, .int .i16 0, .int .i64 0] 26))
        have S2 := EX.start (w.alloc (.cells #[.int .i64 e.kind, .int .i64 e.time, .int .i64 e.task, .int .i64 e.n, .int .i16 e.value, .int .i64 e.port] 26)) (baseE e.kind e.time) 26
        rw [World.size_alloc] at S2
        have B2 := bt HKB.out (ba _ (.cells #[.int .i64 e.kind, .int .i64 e.time, .int .i64 0, .int .i64 0, .int .i16 0, .int .i64 0] 26))
        have HS := Lib.hid (And.intro K2 (And.intro S2 B2))
        clear K2 S2 B2
        generalize hM : kindF e.kind.toNat = M at *
        clear hM
        go_enter Tryd.func11, Tryd.ntmps11
        go_wp2_with fail
        refine (known_c _ _).mono ?_
        rintro r w1 ⟨rfl, rfl⟩
        rw [HN.out]
        go_wp2_with fail
        clear c0 c1 c2 c3 c4 c5 hcell
        go_loopw [31] (fun i wr => ∃ j : Nat, j ≤ M.length ∧ i = .int .i64 j ∧ EX w.heap.size e wr ∧ EX (w.heap.size + 1) (onlyE e (M.take j)) wr ∧ (M.take j).all (fun f => okF f (getE e f)) = true ∧ Below w.heap.size w wr) (fun i _ => M.length - (intOf i).toNat)
        case atStart => exact ⟨0, by omega, rfl, HS.out.1, HS.out.2.1, rfl, HS.out.2.2⟩
        case round =>
          obtain ⟨j, hj, rfl, KE, KS, hall, hbr⟩ := hrel
          have HKE := Lib.hid KE
          have HKS := Lib.hid KS
          have HALL := Lib.hid hall
          have HB := Lib.hid hbr
          have hsz := KS.lt
          clear KS hall
          by_cases hlt : j < M.length
          · obtain ⟨ad, rfl, had, hc⟩ := HAT.out j _ (List.getElem?_eq_getElem hlt)
            replace hc := (hbr.cell (by rw [block_of_add]; exact had)).trans hc
            have HFL := Lib.hid (HIF.out M[j] (List.getElem_mem hlt))
            have HOT := Lib.hid (onlyE_take (e := e) hlt)
            have HVA := Lib.hid (valid_all (e := e) hlt)
            have HAT2 := Lib.hid (fun a => all_take (e := e) hlt a HALL.out)
            generalize M[j] = f at *
            obtain ⟨_, c0, c1, c2, c3, c4, c5, _⟩ := KE
            clear hbr
            go_wp2_with fail
            refine (get_l e h f _).mono ?_
            rintro r w2 ⟨rfl, hb2⟩
            have K2 := Lib.hid (HKE.out.next hb2)
            have S2 := Lib.hid (HKS.out.next hb2)
            have B2 := Lib.hid (bt HB.out hb2)
            clear hb2 c0 c1 c2 c3 c4 c5 hc
            go_wp2_with fail
            refine (set_c (w.heap.size + 1) _ f _ HFL.out (getE_b h f) _ S2.out).mono ?_
            rintro r w3 ⟨rfl, rfl⟩
            cases hok : okF f (getE e f)
            · have HF := Lib.hid (show validE e = false from by rw [HV.out, HVA.out hok]; rfl)
              clear hok
              go_wp2_with fail
              go_ret
              exact ⟨ret_bool HF.out.symm, setW_below B2.out (by omega) _ _⟩
            · have HA3 := Lib.hid (HAT2.out hok)
              clear hok
              have HR := Lib.hid (And.intro (K2.out.setFar (Y := w.heap.size + 1) (by omega) f (getE e f)) (And.intro (S2.out.set_ f (getE e f)) (setW_below B2.out (X := w.heap.size + 1) (by omega) f (getE e f))))
              go_wp2_with fail
              go_roundw
              case rel => exact ⟨j + 1, by omega, by go_num, HR.out.1, by rw [HOT.out]; exact HR.out.2.1, HA3.out, HR.out.2.2⟩
              case measure => simp [intOf]; omega
          · obtain rfl : j = M.length := by omega
            rw [List.take_length] at HKS HALL
            obtain ⟨_, c0, c1, c2, c3, c4, c5, _⟩ := KE
            obtain ⟨_, s0, s1, s2, s3, s4, s5, _⟩ := HKS.out
            have HF := Lib.hid (show validE e = eqE (onlyE e M) e from by rw [HV.out, HALL.out]; rfl)
            generalize onlyE e M = o at *
            by_cases hoe : o = e
            · subst hoe
              have HF2 := Lib.hid (show validE o = true from by rw [HF.out, eqE_iff])
              go_wp2_with fail
              go_ret
              exact ⟨ret_bool HF2.out.symm, HB.out⟩
            · have HF2 := Lib.hid (show validE e = false from by rw [HF.out, Bool.eq_false_iff]; exact fun h => hoe (eqE_iff.1 h))
              have HOE := Lib.hid hoe
              clear hoe
              go_wp2_with fail
              all_goals go_ret
              all_goals first
                | exact ⟨ret_bool HF2.out.symm, HB.out⟩
                | (exfalso; exact HOE.out (eqE_iff.1 (by unfold eqE; simp [*])))
end Go.Proofs.YtdfconiahfdhbaaDoor
