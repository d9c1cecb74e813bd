/-
  parse: one line read.
-/
import Derived.Test.YtdfconiahfdhbaaDoorWds
import Derived.Laws.Rows
import Derived.BigRegion
namespace Go.Proofs.YtdfconiahfdhbaaDoor
open Go.RowKit
attribute [local go_sem ↓] Go.wp_at_zero Go.wp_at_succ

def ev0 : Ev := ⟨0, 0, 0, 0, 0, 0⟩
theorem inE0 : InE ev0 := ⟨by unfold B64; decide, by unfold B64; decide, by unfold B64; decide, by unfold B64; decide, by unfold B16; decide, by unfold B64; decide⟩
theorem inE_base {k t : Int} (hk : B64 k) (ht : B64 t) : InE (baseE k t) := ⟨hk, ht, inE0.task, inE0.n, inE0.value, inE0.port⟩
theorem inE_set {e : Ev} (h : InE e) (f : Int) {n : Int} (hn : B64 n) : InE (setE e f n) := by
  obtain ⟨a, b, c, d, v, p⟩ := h
  unfold setE
  split
  · exact ⟨a, b, hn, d, v, p⟩
  · split
    · exact ⟨a, b, c, d, v, hn⟩
    · split
      · refine ⟨a, b, c, d, ?_, p⟩
        unfold B16
        have := wrap_i16 n
        constructor <;> simp only [this] <;> omega
      · exact ⟨a, b, c, hn, v, p⟩
theorem setE_kind (e : Ev) (f n : Int) : (setE e f n).kind = e.kind := by unfold setE; split <;> (try split) <;> (try split) <;> rfl
theorem part_agg (cs : Array Value) (k : Nat) (hk : k < 13) (a b : Value) (ha : cs[k * 2]? = some a) (hb : cs[k * 2 + 1]? = some b) (w : World) : (Instr.index 57 (.agg cs) (.int .i64 (k : Int))).run Tryd.prog w = .ok (.agg #[a, b]) w := by
  have u57 := Tryd.underlying57
  have u56 := Tryd.underlying56
  have z56 := Tryd.sizeOf56
  have a56 := Tryd.isAgg56
  have h0 : (0 : Int) ≤ (k : Int) ∧ (k : Int) < 13 := by omega
  have hx : cs.extract (k * 2) (k * 2 + 2) = #[a, b] := by
    apply Array.ext_getElem?
    intro i
    have h1 := (Array.getElem?_eq_some_iff.1 hb).1
    rw [Array.getElem?_extract]
    match i with
    | 0 => rw [if_pos (by omega)]; simpa using ha
    | 1 => rw [if_pos (by omega)]; simpa using hb
    | i + 2 => rw [if_neg (by omega)]; simp
  simp [Instr.index, run_underlying, part, go_sem, *]
theorem known_q {k : Int} {b : Bool} (h : knownB k = b) {w : World} : Calls Tryd.prog 25 #[.int .i64 k] w fun r w' => r = .returned (.bool b) ∧ w' = w := by rw [← h]; exact (known_c k w).mono fun _ _ ⟨h, e⟩ => ⟨h, e.symm⟩
/-- what holds while a line is read: the result's block, the words' block -/
structure P0 (w : World) (Y : Nat) (WL : List ByteArray) (W : World) : Prop where
  below : Below w.heap.size w W
  r : EX w.heap.size ev0 W
  wlt : Y < W.heap.size
  wd : ∀ (j : Nat) z, WL[j]? = some z → W.cell? ⟨Y, j, none⟩ = some (.string z)
theorem P0.next {w W W' : World} {Y : Nat} {WL : List ByteArray} (h : P0 w Y WL W) (hb : Below W.heap.size W W') : P0 w Y WL W' :=
  ⟨bt h.below hb, h.r.next hb, Nat.lt_of_lt_of_le h.wlt hb.size, fun j z hj => ((bcell hb).1 _ _ h.wlt).trans (h.wd j z hj)⟩
theorem P0.start (w : World) (WL : List ByteArray) : P0 w (w.heap.size + 1) WL ((w.alloc (.cells #[.int .i64 0, .int .i64 0, .int .i64 0, .int .i64 0, .int .i16 0, .int .i64 0] 26)).alloc (.cells (WL.map Value.string).toArray 9)) := by
  have h1 := EX.start w ev0 26
  have hb := ba (w.alloc (.cells #[.int .i64 0, .int .i64 0, .int .i64 0, .int .i64 0, .int .i16 0, .int .i64 0] 26)) (.cells (WL.map Value.string).toArray 9)
  refine ⟨bt (ba w _) hb, h1.next hb, by simp, fun j z hj => ?_⟩
  rw [World.cell?_alloc_at _ _ _ _ (by simp)]
  simp [hj]
/-- and the event's block -/
structure PX (w : World) (Y X : Nat) (WL : List ByteArray) (e : Ev) (W : World) : Prop where
  p : P0 w Y WL W
  e : EX X e W
  lt : w.heap.size < X
  ne : Y < X
theorem PX.next {w W W' : World} {Y X : Nat} {WL : List ByteArray} {e : Ev} (h : PX w Y X WL e W) (hb : Below W.heap.size W W') : PX w Y X WL e W' := ⟨h.p.next hb, h.e.next hb, h.lt, h.ne⟩
theorem setW_cell {w : World} {X : Nat} {f n : Int} {p : Addr} (h : X ≠ p.block) : (setW w X f n).cell? p = w.cell? p := by
  unfold setW
  split
  · exact World.cell?_setCell_other w _ p _ (fun q => h (by rw [← q]))
  · split
    · exact World.cell?_setCell_other w _ p _ (fun q => h (by rw [← q]))
    · split
      · exact World.cell?_setCell_other w _ p _ (fun q => h (by rw [← q]))
      · exact World.cell?_setCell_other w _ p _ (fun q => h (by rw [← q]))
theorem PX.set_ {w W : World} {Y X : Nat} {WL : List ByteArray} {e : Ev} (h : PX w Y X WL e W) (f n : Int) : PX w Y X WL (setE e f n) (setW W X f n) := by
  have hl := h.lt
  have hn := h.ne
  refine ⟨⟨setW_below h.p.below (by omega) f n, h.p.r.setFar (by omega) f n, by rw [setW_size]; exact h.p.wlt, fun j z hj => (setW_cell (by simp only; omega)).trans (h.p.wd j z hj)⟩, h.e.set_ f n, hl, hn⟩
theorem PX.kind {w W : World} {Y X : Nat} {WL : List ByteArray} {e : Ev} (h : PX w Y X WL e W) (k : Int) : PX w Y X WL { e with kind := k } (W.setCell ⟨X, 0, none⟩ (.int .i64 k)) := by
  have hl := h.lt
  have hn := h.ne
  obtain ⟨el, c0, c1, c2, c3, c4, c5, fr⟩ := h.e
  refine ⟨⟨h.p.below.setCell (by simp only; omega) _, h.p.r.far (by simp only; omega) _, by simpa using h.p.wlt, fun j z hj => (World.cell?_setCell_other W _ _ _ (fun q => by have := congrArg Addr.block q; simp only at this; omega)).trans (h.p.wd j z hj)⟩, ⟨by simpa using el, ?_, ?_, ?_, ?_, ?_, ?_, fun i => by simpa using fr i⟩, hl, hn⟩ <;> go_simp
theorem valid_l (e : Ev) (h : InE e) {b : Bool} (hv : validE e = b) (w : World) (hk : KTab w) : Calls Tryd.prog 11 #[.agg #[.int .i64 e.kind, .int .i64 e.time, .int .i64 e.task, .int .i64 e.n, .int .i16 e.value, .int .i64 e.port]] w fun r w' => r = .returned (.bool b) ∧ Below w.heap.size w w' := by rw [← hv]; exact valid_c e h w hk
theorem line_l (e : Ev) (h : InE e) (hkn : 1 ≤ e.kind ∧ e.kind < 13) (w : World) (hr : Rdy w) : Calls Tryd.prog 33 #[.agg #[.int .i64 e.kind, .int .i64 e.time, .int .i64 e.task, .int .i64 e.n, .int .i16 e.value, .int .i64 e.port]] w fun r w' => r = .returned (.string ⟨(lineE e).toArray⟩) ∧ Below w.heap.size w w' := line_c e h hkn w hr
/-- reading a line -/
def PLineP (s : List UInt8) (w : World) (r : Ending) (w' : World) : Prop := ∃ (ev : Ev) (b : Bool), r = .returned (.tuple #[ev.v, .bool b]) ∧ InE ev ∧ (b = true → validE ev = true ∧ s = lineE ev) ∧ (b = false → ∀ X, InE X → validE X = true → s ≠ lineE X) ∧ Below w.heap.size w w'
set_option maxRecDepth 100000 in
set_option maxHeartbeats 4000000 in
theorem parseL_c (s : ByteArray) (hs : s.size ≤ 100000) (w : World) (hr : Rdy w) : Calls Tryd.prog 37 #[.string s] w (PLineP s.data.toList w) := by
  have HT := Lib.hid (Tryd.strings_TrimSuffix s ⟨#[10]⟩)
  rw [show (⟨#[10]⟩ : ByteArray).data.toList = [10] from rfl] at HT
  obtain ⟨p, hp⟩ : ∃ p : ByteArray, p = ⟨(Lib.trimSuffix s.data.toList [10]).toArray⟩ := ⟨_, rfl⟩
  have hps : p.size ≤ 100000 := by
    have h1 := Lib.trimSuffix_le s.data.toList [10]
    have h2 : s.data.toList.length = s.size := rfl
    rw [hp]
    simp only [ByteArray.size, List.size_toArray]
    omega
  rw [← hp] at HT
  have hlen := pieces_len p ⟨#[32]⟩ (by decide)
  have HW := Lib.hid (show ∀ X, InE X → validE X = true → s.data.toList = lineE X → Lib.splitB ⟨#[32]⟩ 0 (Lib.countB p ⟨#[32]⟩) p = wordsE X from fun X _ hv e => pieces_line (valid_ve hv) (by rw [hp, e]; exact trim_line _))
  have HSZ := Lib.hid (show ∀ x ∈ Lib.splitB ⟨#[32]⟩ 0 (Lib.countB p ⟨#[32]⟩) p, x.size ≤ 100000 from fun x hx => Nat.le_trans (pieces_size hx) hps)
  have HSP := Lib.hid (fun W R => split_c p ⟨#[32]⟩ (by omega) (by decide) W R)
  unfold pieces at hlen
  rw [← hlen] at HSP
  have hcl : Lib.countB p ⟨#[32]⟩ + 1 ≤ 100001 := by have := Lib.countB_le ⟨#[32]⟩ (by decide) _ p (Nat.le_refl _); omega
  rw [← hlen] at hcl
  clear hlen hp
  generalize Lib.splitB ⟨#[32]⟩ 0 (Lib.countB p ⟨#[32]⟩) p = WL at *
  go_enter Tryd.func37, Tryd.ntmps37
  go_wp2_with fail
  refine (HT.out _ (by omega)).mono ?_
  rintro e w1 ⟨rfl, rfl⟩
  clear HT
  go_wp2_with fail
  refine (HSP.out _ (hr.r.below (ba w _))).mono ?_
  rintro e w2 ⟨rfl, rfl⟩
  clear HSP
  have HK := Lib.hid (P0.start w WL)
  simp only [World.size_alloc]
  generalize (w.alloc (.cells #[.int .i64 0, .int .i64 0, .int .i64 0, .int .i64 0, .int .i16 0, .int .i64 0] 26)).alloc (.cells (WL.map Value.string).toArray 9) = W1 at *
  generalize w.heap.size + 1 = Y at *
  have HQ0 := Lib.hid (show ∀ W', Below w.heap.size w W' → (∀ X, InE X → validE X = true → s.data.toList ≠ lineE X) → PLineP s.data.toList w (.returned (.tuple #[.agg #[.int .i64 0, .int .i64 0, .int .i64 0, .int .i64 0, .int .i16 0, .int .i64 0], .bool false])) W' from fun W' hb hn => ⟨ev0, false, rfl, inE0, fun h => Bool.noConfusion h, fun _ => hn, hb⟩)
  have HSB := Lib.hid (show ∀ W', Below w.heap.size w W' → Below w.heap.size w ((((((W'.setCell ⟨w.heap.size, 0, none⟩ (.int .i64 0)).setCell ⟨w.heap.size, 1, none⟩ (.int .i64 0)).setCell ⟨w.heap.size, 2, none⟩ (.int .i64 0)).setCell ⟨w.heap.size, 3, none⟩ (.int .i64 0)).setCell ⟨w.heap.size, 4, none⟩ (.int .i16 0)).setCell ⟨w.heap.size, 5, none⟩ (.int .i64 0)) from fun W' hb => store_below (e := ev0) hb (Nat.le_refl _))
  by_cases h2 : WL.length < 2
  · have hI : (WL.length : Int) < 2 := by omega
    have HN := Lib.hid (show ∀ X, InE X → validE X = true → s.data.toList ≠ lineE X from fun X hx hv e => by
      have := congrArg List.length (HW.out X hx hv e)
      simp only [wordsE, List.length_cons] at this
      omega)
    obtain ⟨_, ⟨_, r0, r1, r2, r3, r4, r5, fr⟩, _, _⟩ := HK.out
    have f0 := fr 0
    have f1 := fr 1
    have f2 := fr 2
    have f3 := fr 3
    have f4 := fr 4
    have f5 := fr 5
    clear fr
    go_wp2_with fail
    exact bodyPost_ret (v := .tuple #[.agg #[.int .i64 0, .int .i64 0, .int .i64 0, .int .i64 0, .int .i16 0, .int .i64 0], .bool false]) (by simp [results, Tryd.results37, go_sem, *]) rfl (HQ0.out _ (HSB.out _ HK.out.below) HN.out)
  · have hI : ¬ (WL.length : Int) < 2 := by omega
    obtain ⟨z0, hz0⟩ : ∃ z, WL[0]? = some z := ⟨WL[0], List.getElem?_eq_getElem (by omega)⟩
    obtain ⟨z1, hz1⟩ : ∃ z, WL[1]? = some z := ⟨WL[1], List.getElem?_eq_getElem (by omega)⟩
    have HZ0 := Lib.hid (show ∀ X, InE X → validE X = true → s.data.toList = lineE X → z0.data.toList = Lib.itoa X.time from fun X hx hv e => by
      rw [HW.out X hx hv e] at hz0
      obtain rfl := Option.some.inj hz0
      rfl)
    have HZ1 := Lib.hid (show ∀ X, InE X → validE X = true → s.data.toList = lineE X → scan z1 13 = X.kind.toNat from fun X hx hv e => by
      rw [HW.out X hx hv e] at hz1
      obtain rfl := Option.some.inj hz1
      have := (valid_ve hv).k
      exact scan_word (by omega) 13 (by omega) (by omega))
    have c0 := HK.out.wd 0 z0 hz0
    have hzs : z0.size ≤ 100000 := HSZ.out z0 (List.mem_of_getElem? hz0)
    go_wp2_with fail
    refine (parse64_any z0 (by omega) _ (hr.next HK.out.below).r).mono ?_
    rintro r w2 ⟨t, E, bt, hE, rfl, hb2, hm⟩
    have HT2 := Lib.hid (show ∀ X, InE X → validE X = true → s.data.toList = lineE X → t = X.time ∧ E = .nilIface from fun X hx hv e => hm _ hx.time (HZ0.out X hx hv e))
    have HE := Lib.hid hE
    have HK2 := Lib.hid (HK.out.next hb2)
    have hY2 := HK2.out.wlt
    have hR2 := HK2.out.r.lt
    clear hb2 hm hE HK HZ0 hz0 c0 hzs
    have HX := Lib.hid (show PX w Y w2.heap.size WL (baseE 0 t) (w2.alloc (.cells #[.int .i64 0, .int .i64 t, .int .i64 0, .int .i64 0, .int .i16 0, .int .i64 0] 26)) from ⟨HK2.out.next (ba w2 _), EX.start w2 (baseE 0 t) 26, hR2, hY2⟩)
    obtain ⟨cs, ct, cf, hrow, hcs⟩ := (hr.next HX.out.p.below).k.row
    have hi57 : (Tryd.prog.info? 57).map (·.size) = some cs.size := by rw [hcs]; kernel_rfl
    have HKI := Lib.hid (show ∀ k, k < 13 → ∃ A cap, cs[k * 2]? = some (.string ⟨(kindW k).toArray⟩) ∧ cs[k * 2 + 1]? = some (.slice A (kindF k).length cap) from fun k hk => by
      obtain ⟨h0, A, cap, h1, _⟩ := (hr.next HX.out.p.below).k.at_ k hk
      rw [cell_of_row _ 0 _ cs ct cf hrow] at h0 h1
      exact ⟨A, cap, h0, h1⟩)
    clear hcs
    go_wp2_with (with_reducible refine wpList_load_row rfl 57 _ rfl 0 rfl ct cs cf _ hrow Tryd.underlying57 rfl hi57 ?_)
    clear hrow hi57
    generalize w2.alloc (.cells #[.int .i64 0, .int .i64 t, .int .i64 0, .int .i64 0, .int .i16 0, .int .i64 0] 26) = W3 at *
    generalize w2.heap.size = X at *
    clear HK2
    go_loopw [31] (fun i wr => ∃ k : Nat, k ≤ 13 ∧ i = .int .i64 k ∧ PX w Y X WL (baseE (scan z1 k) t) wr) (fun i _ => 13 - (intOf i).toNat)
    case atStart => exact ⟨0, by omega, rfl, HX.out⟩
    case round =>
      obtain ⟨k, hk, rfl, K⟩ := hrel
      by_cases hlt : k < 13
      · obtain ⟨A, cap, h0, h1⟩ := HKI.out k hlt
        have HP := Lib.hid (And.intro h0 h1)
        have hpi := fun W => part_agg cs k hlt _ _ h0 h1 W
        have c1 := K.p.wd 1 z1 hz1
        have HKB := Lib.hid K
        clear h0 h1
        have hkt : (k : Int) < 13 := by omega
        have hka : (0 : Int) ≤ (k : Int) := by omega
        have hba := ba wr (.cells #[.string ⟨(kindW k).toArray⟩, .slice A (kindF k).length cap] 56)
        have HA := Lib.hid (show ∀ n, PX w Y X WL (baseE (scan z1 k) t) ((wr.alloc (.cells #[.string ⟨(kindW k).toArray⟩, .slice A (kindF k).length cap] 56)).drewN n) from fun n => (K.next hba).next (below_drewN _ n))
        have HSC := Lib.hid (show scan z1 (k + 1) = if knownB (k : Int) && decide ((⟨(kindW k).toArray⟩ : ByteArray) = z1) then k else scan z1 k from rfl)
        have f0 := K.e.fr 0
        have x0 : wr.cell? ⟨X, 0, none⟩ = some (.int .i64 (scan z1 k)) := K.e.c0
        have hXl := K.e.lt
        have hYl := K.p.wlt
        clear hba K HKB hlt hk
        generalize scan z1 k = sk at *
        generalize kindW k = kw at *
        cases hkn : knownB (k : Int)
        · have HKN := Lib.hid hkn
          rw [hkn] at HSC
          clear hkn
          go_wp2_with fail
          go_quiet ((go_at_call 25; exact Calls.quiet_of_same (known_q HKN.out)))
          rename_i nq
          go_wp2_with fail
          go_roundw
          case rel => exact ⟨k + 1, by omega, by go_num, by rw [HSC.out]; exact HA.out nq⟩
          case measure => simp [intOf]; omega
        · have HKN := Lib.hid hkn
          rw [hkn] at HSC
          clear hkn
          by_cases hq : (⟨kw.toArray⟩ : ByteArray) = z1
          · have hqd : decide ((⟨kw.toArray⟩ : ByteArray) = z1) = true := decide_eq_true hq
            rw [hqd] at HSC
            subst hq
            clear hqd
            go_wp2_with fail
            go_quiet ((go_at_call 25; exact Calls.quiet_of_same (known_q HKN.out)))
            rename_i nq
            go_wp2_with fail
            go_roundw
            case rel => exact ⟨k + 1, by omega, by go_num, by rw [HSC.out]; exact (HA.out nq).kind k⟩
            case measure => simp [intOf]; omega
          · have hqd : decide ((⟨kw.toArray⟩ : ByteArray) = z1) = false := decide_eq_false hq
            rw [hqd] at HSC
            have hqf : (kw == z1.toList) = false := by
              rw [beq_eq_false_iff_ne, Lib.toList_data]
              exact fun e => hq (bytes_inj e)
            go_wp2_with fail
            go_quiet ((go_at_call 25; exact Calls.quiet_of_same (known_q HKN.out)))
            rename_i nq
            go_wp2_with fail
            go_roundw
            case rel => exact ⟨k + 1, by omega, by go_num, by rw [HSC.out]; exact HA.out nq⟩
            case measure => simp [intOf]; omega
      · obtain rfl : k = 13 := by omega
        have HSC := Lib.hid (scan_13 z1)
        have hsl : scan z1 13 < 13 := HSC.out
        have HKB := Lib.hid K
        clear K hlt hk HX
        generalize scan z1 13 = q at *
        rcases HE.out with hE | ⟨N, hE⟩
        · subst hE
          clear HE
          cases hkn : knownB (q : Int)
          · have HKN := Lib.hid hkn
            have HN := Lib.hid (show ∀ X, InE X → validE X = true → s.data.toList ≠ lineE X from fun X hx hv e => by
              have h1 := HZ1.out X hx hv e
              have h2 := (valid_ve hv).k
              have h3 : knownB (q : Int) = true := by rw [h1]; simp only [knownB, decide_eq_true_iff]; omega
              rw [HKN.out] at h3
              cases h3)
            clear hkn
            obtain ⟨_, x0, _, _, _, _, _, _⟩ := HKB.out.e
            replace x0 : wr.cell? ⟨X, 0, none⟩ = some (.int .i64 q) := x0
            go_wp2_with fail
            refine (known_c _ _).mono ?_
            rintro r w5 ⟨rfl, rfl⟩
            rw [HKN.out]
            obtain ⟨_, ⟨_, r0, r1, r2, r3, r4, r5, fr⟩, _, _⟩ := HKB.out.p
            have f0 := fr 0
            have f1 := fr 1
            have f2 := fr 2
            have f3 := fr 3
            have f4 := fr 4
            have f5 := fr 5
            clear fr
            go_wp2_with fail
            exact bodyPost_ret (v := .tuple #[.agg #[.int .i64 0, .int .i64 0, .int .i64 0, .int .i64 0, .int .i16 0, .int .i64 0], .bool false]) (by simp [results, Tryd.results37, go_sem, *]) rfl (HQ0.out _ (HSB.out _ HKB.out.p.below) HN.out)
          · have HKN := Lib.hid hkn
            have hkk : 1 ≤ q := by simp only [knownB, decide_eq_true_iff] at hkn; omega
            obtain ⟨_, A, cap, hcell, hat⟩ := hr.k.at_ q hsl
            have hlt0 := World.block_lt_of_cell? _ _ hcell
            have HAT := Lib.hid hat
            have HIF := Lib.hid (kindF_isF q hsl)
            have hl4 := kindF_len q hsl
            have HFL := Lib.hid (show ∀ X, InE X → validE X = true → s.data.toList = lineE X → flds X = kindF q from fun X hx hv e => by rw [HZ1.out X hx hv e]; rfl)
            have HCELL := Lib.hid (show ∀ W, Below w.heap.size w W → W.cell? ⟨0, q * 2 + 1, none⟩ = some (.slice A (kindF q).length cap) from fun W hb => (hb.cell (p := ⟨0, q * 2 + 1, none⟩) hlt0).trans hcell)
            clear hat hcell hkn
            generalize kindF q = M at *
            have hlen : (M.length : Int) ≤ 4 := by omega
            have hq0 : (0 : Int) ≤ (q : Int) := by omega
            have hq13 : (q : Int) < 13 := by omega
            have hcell := HCELL.out _ HKB.out.p.below
            obtain ⟨_, x0, _, _, _, _, _, _⟩ := HKB.out.e
            replace x0 : wr.cell? ⟨X, 0, none⟩ = some (.int .i64 q) := x0
            by_cases hq : WL.length = 2 + M.length
            · have hqI : (WL.length : Int) = 2 + (M.length : Int) := by omega
              go_wp2_with fail
              refine (known_c _ _).mono ?_
              rintro r w5 ⟨rfl, rfl⟩
              rw [HKN.out]
              go_wp2_with fail
              have HKB2 := Lib.hid HKB.out
              clear hcell x0
              go_loopw [75] (fun i wv => ∃ j : Nat, j ≤ M.length ∧ i = .int .i64 j ∧ ∃ ev, PX w Y X WL ev wv ∧ InE ev ∧ ev.kind = q ∧ ∀ X', InE X' → validE X' = true → s.data.toList = lineE X' → ev = onlyE X' (M.take j)) (fun i _ => M.length - (intOf i).toNat)
              case atStart => exact ⟨0, by omega, rfl, _, HKB.out, inE_base ⟨by omega, by omega⟩ bt, rfl, fun X' hx hv e => by
                have h1 := HZ1.out X' hx hv e
                have h2 := (valid_ve hv).k
                have h3 := (HT2.out X' hx hv e).1
                unfold onlyE
                simp only [List.take_zero, List.foldl_nil]
                rw [h1, h3, Int.toNat_of_nonneg (by omega)]⟩
              case round =>
                obtain ⟨j, hj, rfl, ev, K, hin, hkd, hxe⟩ := hrel
                have HIN := Lib.hid hin
                have HKD := Lib.hid hkd
                have HXE := Lib.hid hxe
                have HKV := Lib.hid K
                clear hin hkd hxe HKB HKB2
                by_cases hlt : j < M.length
                · obtain ⟨ad, rfl, had, hc⟩ := HAT.out j _ (List.getElem?_eq_getElem hlt)
                  replace hc := (K.p.below.cell (by rw [block_of_add]; exact had)).trans hc
                  obtain ⟨zj, hzj⟩ : ∃ z, WL[j + 2]? = some z := ⟨WL[j + 2], List.getElem?_eq_getElem (by omega)⟩
                  have cz := K.p.wd (j + 2) zj hzj
                  have hzs : zj.size ≤ 100000 := HSZ.out zj (List.mem_of_getElem? hzj)
                  have HZJ := Lib.hid (show ∀ X', InE X' → validE X' = true → s.data.toList = lineE X' → zj.data.toList = Lib.itoa (getE X' M[j]) from fun X' hx hv e => by
                    rw [HW.out X' hx hv e] at hzj
                    unfold wordsE at hzj
                    rw [HFL.out X' hx hv e, List.getElem?_cons_succ, List.getElem?_cons_succ, List.getElem?_map, List.getElem?_eq_getElem hlt] at hzj
                    obtain rfl := Option.some.inj hzj
                    rfl)
                  have HFI := Lib.hid (HIF.out M[j] (List.getElem_mem hlt))
                  have HOT := Lib.hid (fun X' : Ev => onlyE_take (e := X') hlt)
                  have HFM := Lib.hid (show M[j] ∈ M from List.getElem_mem hlt)
                  clear K hzj
                  generalize M[j] = f at *
                  go_wp2_with fail
                  refine (parse64_any zj (by omega) _ (hr.next HKV.out.p.below).r).mono ?_
                  rintro r w5 ⟨n, E, bn, hE, rfl, hb5, hm⟩
                  have HM := Lib.hid (show ∀ X', InE X' → validE X' = true → s.data.toList = lineE X' → n = getE X' f ∧ E = .nilIface from fun X' hx hv e => hm _ (getE_b hx f) (HZJ.out X' hx hv e))
                  have HK5 := Lib.hid (HKV.out.next hb5)
                  clear hb5 hm HKV hc cz HZJ hzs
                  rcases hE with hE | ⟨N, hE⟩
                  · subst hE
                    go_wp2_with fail
                    refine (set_c X ev f n HFI.out bn _ HK5.out.e).mono ?_
                    rintro r w6 ⟨rfl, rfl⟩
                    have HK6 := Lib.hid (HK5.out.set_ f n)
                    cases hok : okF f n
                    · have HOK := Lib.hid hok
                      have HN := Lib.hid (show ∀ X, InE X → validE X = true → s.data.toList ≠ lineE X from fun X hx hv e => by
                        have h1 := (HM.out X hx hv e).1
                        have h2 := (valid_ve hv).f f (by rw [HFL.out X hx hv e]; exact HFM.out)
                        rw [← h1, HOK.out] at h2
                        cases h2)
                      clear hok
                      generalize setW w5 X f n = W6 at *
                      obtain ⟨_, ⟨_, r0, r1, r2, r3, r4, r5, fr⟩, _, _⟩ := HK6.out.p
                      have f0 := fr 0
                      have f1 := fr 1
                      have f2 := fr 2
                      have f3 := fr 3
                      have f4 := fr 4
                      have f5 := fr 5
                      clear fr
                      go_wp2_with fail
                      exact bodyPost_ret (v := .tuple #[.agg #[.int .i64 0, .int .i64 0, .int .i64 0, .int .i64 0, .int .i16 0, .int .i64 0], .bool false]) (by simp [results, Tryd.results37, go_sem, *]) rfl (HQ0.out _ (HSB.out _ HK6.out.p.below) HN.out)
                    · have HXN := Lib.hid (show ∀ X', InE X' → validE X' = true → s.data.toList = lineE X' → setE ev f n = onlyE X' (M.take (j + 1)) from fun X' hx hv e => by rw [HOT.out X', ← HXE.out X' hx hv e, ← (HM.out X' hx hv e).1])
                      clear hok
                      generalize setW w5 X f n = W6 at *
                      go_wp2_with fail
                      go_roundw
                      case rel => exact ⟨j + 1, by omega, by go_num, setE ev f n, HK6.out, inE_set HIN.out f bn, (setE_kind ev f n).trans HKD.out, HXN.out⟩
                      case measure => simp [intOf]; omega
                  · subst hE
                    have HN := Lib.hid (show ∀ X, InE X → validE X = true → s.data.toList ≠ lineE X from fun X hx hv e => by have h1 := (HM.out X hx hv e).2; cases h1)
                    clear HM
                    obtain ⟨_, ⟨_, r0, r1, r2, r3, r4, r5, fr⟩, _, _⟩ := HK5.out.p
                    have f0 := fr 0
                    have f1 := fr 1
                    have f2 := fr 2
                    have f3 := fr 3
                    have f4 := fr 4
                    have f5 := fr 5
                    clear fr
                    go_wp2_with fail
                    exact bodyPost_ret (v := .tuple #[.agg #[.int .i64 0, .int .i64 0, .int .i64 0, .int .i64 0, .int .i16 0, .int .i64 0], .bool false]) (by simp [results, Tryd.results37, go_sem, *]) rfl (HQ0.out _ (HSB.out _ HK5.out.p.below) HN.out)
                · obtain rfl : j = M.length := by omega
                  have HFIN := Lib.hid (show ∀ X', InE X' → validE X' = true → s.data.toList = lineE X' → ev = X' from fun X' hx hv e => by
                    rw [HXE.out X' hx hv e, List.take_length, ← HFL.out X' hx hv e]
                    unfold validE at hv
                    simp only [Bool.and_eq_true] at hv
                    exact eqE_iff.1 hv.2.2.2)
                  have HKX := Lib.hid (show 1 ≤ ev.kind ∧ ev.kind < 13 from by rw [HKD.out]; omega)
                  have hne : w.heap.size ≠ X := by have := HKV.out.lt; omega
                  have HDR := Lib.hid (fun W (hb : Below w.heap.size w W) => hr.next hb)
                  have hfrs := HKV.out.p.r.fr
                  have f0 := hfrs 0
                  have f1 := hfrs 1
                  have f2 := hfrs 2
                  have f3 := hfrs 3
                  have f4 := hfrs 4
                  have f5 := hfrs 5
                  have HQV := Lib.hid (show ∀ b W', Below w.heap.size w W' → (b = true → validE ev = true ∧ s.data.toList = lineE ev) → (b = false → ∀ X, InE X → validE X = true → s.data.toList ≠ lineE X) → PLineP s.data.toList w (.returned (.tuple #[.agg #[.int .i64 ev.kind, .int .i64 ev.time, .int .i64 ev.task, .int .i64 ev.n, .int .i16 ev.value, .int .i64 ev.port], .bool b])) W' from fun b W' hb h1 h2 => ⟨ev, b, rfl, HIN.out, h1, h2, hb⟩)
                  have HSV := Lib.hid (show ∀ W', Below w.heap.size w W' → Below w.heap.size w ((((((W'.setCell ⟨w.heap.size, 0, none⟩ (.int .i64 ev.kind)).setCell ⟨w.heap.size, 1, none⟩ (.int .i64 ev.time)).setCell ⟨w.heap.size, 2, none⟩ (.int .i64 ev.task)).setCell ⟨w.heap.size, 3, none⟩ (.int .i64 ev.n)).setCell ⟨w.heap.size, 4, none⟩ (.int .i16 ev.value)).setCell ⟨w.heap.size, 5, none⟩ (.int .i64 ev.port)) from fun W' hb => store_below (e := ev) hb (Nat.le_refl _))
                  clear hfrs HXE HQ0 HSB HSZ HW hj hlt HKI HT2 HZ1 HAT HIF HFL HCELL HSC HKN
                  go_wp2_with fail
                  obtain ⟨⟨_, ⟨_, r0, r1, r2, r3, r4, r5, _⟩, _, _⟩, ⟨_, x0, x1, x2, x3, x4, x5, _⟩, _, _⟩ := HKV.out
                  have K := HKV.out.next (World.drewB _)
                  cases hv : validE ev
                  · have HV := Lib.hid hv
                    clear hv HKV
                    have HNF := Lib.hid (show ∀ X, InE X → validE X = true → s.data.toList ≠ lineE X from fun X hx hv e => by
                      have h1 := HFIN.out X hx hv e
                      have h2 := HV.out
                      rw [h1, hv] at h2
                      exact Bool.noConfusion h2)
                    clear HFIN
                    first | go_region_with (first
                        | (go_at_call 11; (with_reducible refine (valid_l ev HIN.out HV.out _ (HDR.out _ K.p.below).k).mono ?_); rintro r w7 ⟨rfl, hb7⟩; replace K := K.next hb7; have frX := K.p.r.fr; have f0 := frX 0; have f1 := frX 1; have f2 := frX 2; have f3 := frX 3; have f4 := frX 4; have f5 := frX 5; obtain ⟨⟨_, ⟨_, r0, r1, r2, r3, r4, r5, _⟩, _, _⟩, ⟨_, x0, x1, x2, x3, x4, x5, _⟩, _, _⟩ := id K; clear frX)) | skip
                    all_goals go_wp2_with fail
                    all_goals exact bodyPost_ret (v := .tuple #[.agg #[.int .i64 ev.kind, .int .i64 ev.time, .int .i64 ev.task, .int .i64 ev.n, .int .i16 ev.value, .int .i64 ev.port], .bool false]) (by simp [results, Tryd.results37, go_sem, *]) rfl (HQV.out _ _ (HSV.out _ K.p.below) (fun h => Bool.noConfusion h) (fun _ => HNF.out))
                  · have HV := Lib.hid hv
                    have HTT := Lib.hid (show (lineE ev == s.toList) = true → validE ev = true ∧ s.data.toList = lineE ev from fun h => ⟨HV.out, by have := eq_of_beq h; rw [Lib.toList_data] at this; exact this.symm⟩)
                    have HTF := Lib.hid (show (lineE ev == s.toList) = false → ∀ X, InE X → validE X = true → s.data.toList ≠ lineE X from fun h X hx hv e => by
                      have h1 := HFIN.out X hx hv e
                      rw [Lib.toList_data, e, ← h1] at h
                      simp at h)
                    clear hv HKV HFIN
                    go_region_law (first
                        | (go_simp; go_at_call 11; (with_reducible refine (valid_l ev HIN.out HV.out _ (HDR.out _ K.p.below).k).mono ?_); rintro r w7 ⟨rfl, hb7⟩; replace K := K.next hb7; have frX := K.p.r.fr; have f0 := frX 0; have f1 := frX 1; have f2 := frX 2; have f3 := frX 3; have f4 := frX 4; have f5 := frX 5; obtain ⟨⟨_, ⟨_, r0, r1, r2, r3, r4, r5, _⟩, _, _⟩, ⟨_, x0, x1, x2, x3, x4, x5, _⟩, _, _⟩ := id K; clear frX)
                        | (go_simp; go_at_call 33; (with_reducible refine (line_l ev HIN.out HKX.out _ (HDR.out _ K.p.below)).mono ?_); rintro r w8 ⟨rfl, hb8⟩; replace K := K.next hb8; have frX := K.p.r.fr; have f0 := frX 0; have f1 := frX 1; have f2 := frX 2; have f3 := frX 3; have f4 := frX 4; have f5 := frX 5; obtain ⟨⟨_, ⟨_, r0, r1, r2, r3, r4, r5, _⟩, _, _⟩, ⟨_, x0, x1, x2, x3, x4, x5, _⟩, _, _⟩ := id K; clear frX))
                    all_goals go_wp2_with fail
                    all_goals exact bodyPost_ret (v := .tuple #[.agg #[.int .i64 ev.kind, .int .i64 ev.time, .int .i64 ev.task, .int .i64 ev.n, .int .i16 ev.value, .int .i64 ev.port], .bool (lineE ev == s.toList)]) (by simp [results, Tryd.results37, go_sem, *]) rfl (HQV.out _ _ (HSV.out _ K.p.below) HTT.out HTF.out)
            · have hqI : ¬ (WL.length : Int) = 2 + (M.length : Int) := by omega
              have HN := Lib.hid (show ∀ X, InE X → validE X = true → s.data.toList ≠ lineE X from fun X hx hv e => by
                have h1 := congrArg List.length (HW.out X hx hv e)
                rw [← HFL.out X hx hv e] at hq
                simp only [wordsE, List.length_cons, List.length_map] at h1
                omega)
              go_wp2_with fail
              refine (known_c _ _).mono ?_
              rintro r w5 ⟨rfl, rfl⟩
              rw [HKN.out]
              obtain ⟨_, ⟨_, r0, r1, r2, r3, r4, r5, fr⟩, _, _⟩ := HKB.out.p
              have f0 := fr 0
              have f1 := fr 1
              have f2 := fr 2
              have f3 := fr 3
              have f4 := fr 4
              have f5 := fr 5
              clear fr
              go_wp2_with fail
              exact bodyPost_ret (v := .tuple #[.agg #[.int .i64 0, .int .i64 0, .int .i64 0, .int .i64 0, .int .i16 0, .int .i64 0], .bool false]) (by simp [results, Tryd.results37, go_sem, *]) rfl (HQ0.out _ (HSB.out _ HKB.out.p.below) HN.out)
        · subst hE
          have HN := Lib.hid (show ∀ X, InE X → validE X = true → s.data.toList ≠ lineE X from fun X hx hv e => by have h1 := (HT2.out X hx hv e).2; cases h1)
          clear HE
          obtain ⟨_, ⟨_, r0, r1, r2, r3, r4, r5, fr⟩, _, _⟩ := HKB.out.p
          have f0 := fr 0
          have f1 := fr 1
          have f2 := fr 2
          have f3 := fr 3
          have f4 := fr 4
          have f5 := fr 5
          clear fr
          go_wp2_with fail
          exact bodyPost_ret (v := .tuple #[.agg #[.int .i64 0, .int .i64 0, .int .i64 0, .int .i64 0, .int .i16 0, .int .i64 0], .bool false]) (by simp [results, Tryd.results37, go_sem, *]) rfl (HQ0.out _ (HSB.out _ HKB.out.p.below) HN.out)
end Go.Proofs.YtdfconiahfdhbaaDoor
