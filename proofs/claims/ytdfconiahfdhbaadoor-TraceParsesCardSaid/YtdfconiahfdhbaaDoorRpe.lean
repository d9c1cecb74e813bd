/-
  The reference's event: one line read.
-/
import Derived.Test.YtdfconiahfdhbaaDoorPrl
import Derived.Test.YtdfconiahfdhbaaDoorRsp
import Derived.BigRegion
namespace Go.Proofs.YtdfconiahfdhbaaDoor
open Go.RowKit
attribute [local go_sem ↓] Go.wp_at_zero Go.wp_at_succ

theorem getE_same (e : Ev) {f n : Int} (hf : isF f) (hok : okF f n = true) : getE (setE e f n) f = n := by
  have hb := okF_b hok
  rcases hf with rfl | rfl | rfl | rfl | rfl
  · rfl
  · rfl
  · rfl
  · rfl
  · show IntKind.i16.wrap n = n
    unfold okF at hok
    simp at hok
    exact IntWalk.i16_in _ (by omega)
theorem setE_time (e : Ev) (f n : Int) : (setE e f n).time = e.time := by unfold setE; split <;> (try split) <;> (try split) <;> rfl
theorem getE_other (e : Ev) {f g : Int} (n : Int) (hf : isF f) (hg : isF g) (hne : ¬ (f = g ∨ (f = 2 ∧ g = 3) ∨ (f = 3 ∧ g = 2))) : getE (setE e f n) g = getE e g := by
  rcases hf with rfl | rfl | rfl | rfl | rfl <;> rcases hg with rfl | rfl | rfl | rfl | rfl <;> first | rfl | (exfalso; apply hne; decide)
theorem kindF_apart : ∀ k, k < 13 → ∀ j, j < (kindF k).length → ∀ i, i < j → ¬ ((kindF k).getD j 0 = (kindF k).getD i 0 ∨ ((kindF k).getD j 0 = 2 ∧ (kindF k).getD i 0 = 3) ∨ ((kindF k).getD j 0 = 3 ∧ (kindF k).getD i 0 = 2)) := by decide
/-- the words of an event's line -/
def wordsL (e : Ev) : List (List UInt8) := Lib.itoa e.time :: kindW e.kind.toNat :: (flds e).map fun f => Lib.itoa (getE e f)
theorem marked_cons (c : UInt8) (x : List UInt8) : ∀ l : List (List UInt8), marked c (x :: l) = x ++ (l.flatMap fun y => c :: y) ++ [c]
  | [] => by simp [marked]
  | y :: l => by
    have h := marked_cons c y l
    have e : marked c (x :: y :: l) = x ++ c :: marked c (y :: l) := by unfold marked; simp
    rw [e, h]
    simp
theorem words_marked (e : Ev) : marked 32 (wordsL e) = lineN e ++ [32] := by
  unfold wordsL
  rw [marked_cons]
  unfold lineN headE bodyE
  rw [List.flatMap_cons, List.flatMap_map]
  simp
theorem wordsL_no {e : Ev} (h : VE e) : ∀ x ∈ wordsL e, (32 : UInt8) ∉ x := by
  intro x hx
  unfold wordsL at hx
  rcases List.mem_cons.1 hx with rfl | hx
  · exact itoa_no32 _
  · rcases List.mem_cons.1 hx with rfl | hx
    · exact (kindW_no _ (by have := h.k; omega)).1
    · obtain ⟨f, _, rfl⟩ := List.mem_map.1 hx
      exact itoa_no32 _
theorem wordN_c (k : Nat) (w : World) : Calls Tryd.prog 28 #[.int .i64 (k : Int)] w fun e w' => ∃ A cap, e = .returned (.tuple #[.string ⟨(kindW k).toArray⟩, .slice A (kindF k).length cap]) ∧ Nts w' A ((kindF k).map rc) ∧ Below w.heap.size w w' := by
  have h := word_c (k : Int) w
  unfold WordP at h
  rw [Int.toNat_natCast] at h
  refine h.mono fun e w' ⟨A, cap, he, hN, hb⟩ => ⟨A, cap, ?_, hN, hb⟩
  rw [he, List.length_map]
structure Q0 (w : World) (ad : Addr) (WL : List (List UInt8)) (W : World) : Prop where
  below : Below w.heap.size w W
  r : EX w.heap.size ev0 W
  wd : Strs W (some ad) WL
theorem Q0.next {w W W' : World} {ad : Addr} {WL : List (List UInt8)} (h : Q0 w ad WL W) (hb : Below W.heap.size W W') : Q0 w ad WL W' := ⟨bt h.below hb, h.r.next hb, h.wd.next hb⟩
theorem Q0.at_ {w W : World} {ad : Addr} {WL : List (List UInt8)} (h : Q0 w ad WL W) {j : Nat} {x : List UInt8} (hj : WL[j]? = some x) : W.cell? (ad.add j) = some (.string ⟨x.toArray⟩) := by
  obtain ⟨a, e, _, hc⟩ := h.wd j x hj
  cases e
  exact hc
structure QX (w : World) (ad : Addr) (X : Nat) (WL : List (List UInt8)) (e : Ev) (W : World) : Prop where
  p : Q0 w ad WL W
  e : EX X e W
  lt : w.heap.size < X
  ne : ad.block < X
theorem QX.next {w W W' : World} {ad : Addr} {X : Nat} {WL : List (List UInt8)} {e : Ev} (h : QX w ad X WL e W) (hb : Below W.heap.size W W') : QX w ad X WL e W' := ⟨h.p.next hb, h.e.next hb, h.lt, h.ne⟩
theorem QX.store {w W : World} {ad : Addr} {X : Nat} {WL : List (List UInt8)} {o : Ev} (h : QX w ad X WL o W) (e : Ev) : QX w ad X WL e ((((((W.setCell ⟨X, 0, none⟩ (.int .i64 e.kind)).setCell ⟨X, 1, none⟩ (.int .i64 e.time)).setCell ⟨X, 2, none⟩ (.int .i64 e.task)).setCell ⟨X, 3, none⟩ (.int .i64 e.n)).setCell ⟨X, 4, none⟩ (.int .i16 e.value)).setCell ⟨X, 5, none⟩ (.int .i64 e.port)) := by
  have hl := h.lt
  have hn := h.ne
  have far : ∀ (V : World) (i : Nat) (u : Value) (j : Nat), (V.setCell ⟨X, i, none⟩ u).cell? (ad.add j) = V.cell? (ad.add j) := fun V i u j => World.cell?_setCell_other V _ _ u (fun q => by
    have := congrArg Addr.block q
    rw [block_of_add] at this
    simp only at this
    omega)
  refine ⟨⟨store_below h.p.below (by omega), h.p.r.storeFar (by omega), fun j x hj => ?_⟩, h.e.store, hl, hn⟩
  obtain ⟨a, ea, hlt, hc⟩ := h.p.wd j x hj
  cases ea
  exact ⟨ad, rfl, by simpa using hlt, by rw [far, far, far, far, far, far]; exact hc⟩
/-- reading a line without its newline -/
def EventP (s : List UInt8) (w : World) (r : Ending) (w' : World) : Prop := ∃ (ev : Ev) (b : Bool), r = .returned (.tuple #[.agg #[.int .i64 ev.kind, .int .i64 ev.time, .int .i64 ev.task, .int .i64 ev.n, .int .i16 ev.value, .int .i64 ev.port], .bool b]) ∧ InE ev ∧ (b = true → validE ev = true ∧ s = lineN ev) ∧ (b = false → ∀ X, InE X → validE X = true → s ≠ lineN X) ∧ Below w.heap.size w w'
theorem rvalid_l' (e : Ev) (h : InE e) (w : World) : Calls Tryd.prog 12 #[.agg #[.int .i64 e.kind, .int .i64 e.time, .int .i64 e.task, .int .i64 e.n, .int .i16 e.value, .int .i64 e.port]] w fun r w' => r = .returned (.bool (validE e)) ∧ Below w.heap.size w w' := rvalid_c e h w
theorem sml64 {n : Int} (h : Sml n) : B64 n := ⟨by have := h.1; omega, by have := h.2; omega⟩
set_option maxRecDepth 100000 in
set_option maxHeartbeats 4000000 in
theorem revent_c (s : ByteArray) (hs : s.size ≤ 100000) (w : World) : Calls Tryd.prog 39 #[.string s] w (EventP s.data.toList w) := by
  have HR := Lib.hid (EX.start w ev0 26)
  have HQ0 := Lib.hid (show ∀ W', Below w.heap.size w W' → (∀ X, InE X → validE X = true → s.data.toList ≠ lineN X) → EventP s.data.toList w (.returned (.tuple #[.agg #[.int .i64 0, .int .i64 0, .int .i64 0, .int .i64 0, .int .i16 0, .int .i64 0], .bool false])) W' from fun W' hb hn => ⟨ev0, false, rfl, inE0, fun h => Bool.noConfusion h, fun _ => hn, hb⟩)
  have HSB := Lib.hid (show ∀ W', Below w.heap.size w W' → Below w.heap.size w ((((((W'.setCell ⟨w.heap.size, 0, none⟩ (.int .i64 0)).setCell ⟨w.heap.size, 1, none⟩ (.int .i64 0)).setCell ⟨w.heap.size, 2, none⟩ (.int .i64 0)).setCell ⟨w.heap.size, 3, none⟩ (.int .i64 0)).setCell ⟨w.heap.size, 4, none⟩ (.int .i16 0)).setCell ⟨w.heap.size, 5, none⟩ (.int .i64 0)) from fun W' hb => store_below (e := ev0) hb (Nat.le_refl _))
  go_enter Tryd.func39, Tryd.ntmps39
  go_wp2_with fail
  refine (rsplit_c s hs 32 _).mono ?_
  rintro e w1 ⟨WL, A, cap, rfl, _, hno, hmk, hS, hb1⟩
  have HB1 := Lib.hid (bt (ba w (.cells #[.int .i64 0, .int .i64 0, .int .i64 0, .int .i64 0, .int .i16 0, .int .i64 0] 26)) hb1)
  have HR1 := Lib.hid (HR.out.next hb1)
  have HS := Lib.hid hS
  have HW := Lib.hid (show ∀ X, InE X → validE X = true → s.data.toList = lineN X → WL = wordsL X from fun X _ hv e => marked_uniq hno (wordsL_no (valid_ve hv)) (by rw [hmk, e, words_marked]))
  have HMK := Lib.hid hmk
  have hmx : WL.length ≤ 100001 := by
    have h : ∀ l : List (List UInt8), l.length ≤ (marked 32 l).length := fun l => by
      induction l with
      | nil => simp
      | cons x l ih => rw [show marked 32 (x :: l) = (x ++ [32]) ++ marked 32 l from rfl]; simp only [List.length_append, List.length_cons, List.length_nil]; omega
    have h1 := h WL
    rw [hmk, List.length_append, List.length_singleton, dlen] at h1
    omega
  have HSZ := Lib.hid (show ∀ x ∈ WL, x.length ≤ 100001 from fun x hx => by
    have h : ∀ l : List (List UInt8), x ∈ l → x.length ≤ (marked 32 l).length := fun l hl => by
      induction l with
      | nil => cases hl
      | cons y l ih =>
        rw [show marked 32 (y :: l) = (y ++ [32]) ++ marked 32 l from rfl]
        rcases List.mem_cons.1 hl with rfl | hl
        · simp only [List.length_append, List.length_cons, List.length_nil]; omega
        · have := ih hl; simp only [List.length_append, List.length_cons, List.length_nil]; omega
    have h1 := h WL hx
    rw [hmk, List.length_append, List.length_singleton, dlen] at h1
    omega)
  clear HR hno hmk hS hb1
  by_cases h2 : WL.length < 2
  · have hI : (WL.length : Int) < 2 := by omega
    have HN := Lib.hid (show ∀ X, InE X → validE X = true → s.data.toList ≠ lineN X from fun X hx hv e => by
      have := congrArg List.length (HW.out X hx hv e)
      simp only [wordsL, List.length_cons] at this
      omega)
    obtain ⟨_, r0, r1, r2, r3, r4, r5, fr⟩ := HR1.out
    have f0 := fr 0
    have f1 := fr 1
    have f2 := fr 2
    have f3 := fr 3
    have f4 := fr 4
    have f5 := fr 5
    clear fr
    go_wp2_with fail
    exact bodyPost_ret (v := .tuple #[.agg #[.int .i64 0, .int .i64 0, .int .i64 0, .int .i64 0, .int .i16 0, .int .i64 0], .bool false]) (by simp [results, Tryd.results39, go_sem, *]) rfl (HQ0.out _ (HSB.out _ HB1.out) HN.out)
  · have hI : ¬ (WL.length : Int) < 2 := by omega
    obtain ⟨x0, hx0⟩ : ∃ z, WL[0]? = some z := ⟨WL[0], List.getElem?_eq_getElem (by omega)⟩
    obtain ⟨x1, hx1⟩ : ∃ z, WL[1]? = some z := ⟨WL[1], List.getElem?_eq_getElem (by omega)⟩
    obtain ⟨ad, rfl, _, c0⟩ := HS.out 0 x0 hx0
    have HK := Lib.hid (show Q0 w ad WL w1 from ⟨HB1.out, HR1.out, HS.out⟩)
    rw [Addr.add_zero'] at c0
    have HX0 := Lib.hid (show ∀ X, InE X → validE X = true → s.data.toList = lineN X → x0 = Lib.itoa X.time from fun X hx hv e => by
      rw [HW.out X hx hv e] at hx0
      exact (Option.some.inj hx0).symm)
    have HX1 := Lib.hid (show ∀ X, InE X → validE X = true → s.data.toList = lineN X → x1 = kindW X.kind.toNat from fun X hx hv e => by
      rw [HW.out X hx hv e] at hx1
      exact (Option.some.inj hx1).symm)
    have HL0 := Lib.hid (show (⟨x0.toArray⟩ : ByteArray).size ≤ 200000 from by
      have := HSZ.out x0 (List.mem_of_getElem? hx0)
      show x0.length ≤ _
      omega)
    have HNU := Lib.hid (fun W => number_c ⟨x0.toArray⟩ HL0.out W)
    have hbd : (⟨x0.toArray⟩ : ByteArray).data.toList = x0 := rfl
    rw [hbd] at HNU
    clear hbd HB1 HR1 HS HL0
    generalize (⟨x0.toArray⟩ : ByteArray) = z0 at *
    go_wp2_with fail
    refine (HNU.out _).mono ?_
    rintro r w2 ⟨t, ok, rfl, bt, hyes, hno, hb2⟩
    have HT := Lib.hid (And.intro hyes hno)
    have HK2 := Lib.hid (HK.out.next hb2)
    clear hb2 hyes hno HK c0
    cases ok
    · have HN := Lib.hid (show ∀ X, InE X → validE X = true → s.data.toList ≠ lineN X from fun X hx hv e => HT.out.2 rfl X.time (by have := (valid_ve hv).t; unfold Sml; omega) (HX0.out X hx hv e))
      obtain ⟨_, ⟨_, r0, r1, r2, r3, r4, r5, fr⟩, _⟩ := HK2.out
      have f0 := fr 0
      have f1 := fr 1
      have f2 := fr 2
      have f3 := fr 3
      have f4 := fr 4
      have f5 := fr 5
      clear fr
      go_wp2_with fail
      exact bodyPost_ret (v := .tuple #[.agg #[.int .i64 0, .int .i64 0, .int .i64 0, .int .i64 0, .int .i16 0, .int .i64 0], .bool false]) (by simp [results, Tryd.results39, go_sem, *]) rfl (HQ0.out _ (HSB.out _ HK2.out.below) HN.out)
    · have HXT := Lib.hid (show x0 = Lib.itoa t from HT.out.1 rfl)
      have HTX := Lib.hid (show ∀ X, InE X → validE X = true → s.data.toList = lineN X → t = X.time from fun X hx hv e => Dec.itoa_inj (HXT.out.symm.trans (HX0.out X hx hv e)))
      clear HT HX0
      go_wp2_with fail
      go_loopw [7] (fun kv wr => ∃ k : Nat, 1 ≤ k ∧ k ≤ 13 ∧ kv = .int .i64 k ∧ Q0 w ad WL wr ∧ ∀ X, InE X → validE X = true → s.data.toList = lineN X → k ≤ X.kind.toNat) (fun kv _ => 13 - (intOf kv).toNat)
      case atStart => exact ⟨1, by omega, by omega, rfl, HK2.out, fun X _ hv _ => by have := (valid_ve hv).k; omega⟩
      case round =>
        obtain ⟨k, hk1, hk13, rfl, K, hkx⟩ := hrel
        have HKX := Lib.hid hkx
        have HKB := Lib.hid K
        clear hkx K HK2
        by_cases hlt : k < 13
        · have hk12 : (k : Int) ≤ 12 := by omega
          go_wp2_with fail
          refine (wordN_c k _).mono ?_
          rintro r w3 ⟨Af, capf, rfl, hN, hb3⟩
          have HNT := Lib.hid hN
          have HK3 := Lib.hid (HKB.out.next hb3)
          have hl4 := kindF_len k hlt
          have hl4I : ((kindF k).length : Int) ≤ 4 := by omega
          have c1 : w3.cell? ⟨ad.block, ad.off + 1, none⟩ = some (.string ⟨x1.toArray⟩) := by have := HK3.out.at_ hx1; simpa [Addr.add] using this
          have HIF := Lib.hid (kindF_isF k hlt)
          have HAP := Lib.hid (kindF_apart k hlt)
          have HKI := Lib.hid (fun m hm h => kindW_inj k hlt m hm h)
          have HMR := Lib.hid (show ∀ n, ∀ f ∈ kindF k, okR (k : Int) (rc f) n = okF f n from fun n f hf => okR_rc (by omega) (by rw [Int.toNat_natCast]; exact hf) n)
          have HFL := Lib.hid (show ∀ X, X.kind.toNat = k → flds X = kindF k from fun X h => by unfold flds; rw [h])
          have HKJ := Lib.hid (show ∀ m, m < 13 → kindW k = kindW m → k = m from fun m hm h => kindW_inj k hlt m hm h)
          have HWB := Lib.hid (show (⟨(kindW k).toArray⟩ : ByteArray) = ⟨x1.toArray⟩ ↔ kindW k = x1 from ⟨fun h => congrArg (fun z : ByteArray => z.data.toList) h, fun h => by rw [h]⟩)
          have hnx : ∀ X, InE X → validE X = true → s.data.toList = lineN X → X.kind.toNat ≠ k → k + 1 ≤ X.kind.toNat := fun X hx hv e h => by have := HKX.out X hx hv e; omega
          have HNX := Lib.hid hnx
          have HX1B := Lib.hid (show (⟨x1.toArray⟩ : ByteArray).toList = x1 from Lib.toList_data _)
          clear hN hb3 hnx
          generalize kindF k = M at *
          obtain ⟨kw, hkw⟩ : ∃ kw, kindW k = kw := ⟨_, rfl⟩
          have HKWK := Lib.hid (show kw = kindW k from hkw.symm)
          rw [hkw]
          rw [hkw] at HWB HKI
          clear hkw
          by_cases hq : kw = x1
          · subst hq
            by_cases hc : WL.length = M.length + 2
            · have hcI : (WL.length : Int) = (M.length : Int) + 2 := by omega
              have hba := ba w3 (.cells #[.int .i64 (k : Int), .int .i64 t, .int .i64 0, .int .i64 0, .int .i16 0, .int .i64 0] 26)
              have HQX := Lib.hid (show QX w ad w3.heap.size WL (baseE k t) (w3.alloc (.cells #[.int .i64 (k : Int), .int .i64 t, .int .i64 0, .int .i64 0, .int .i16 0, .int .i64 0] 26)) from ⟨HK3.out.next hba, EX.start w3 (baseE k t) 26, HK3.out.r.lt, by
                obtain ⟨a, ea, hl, _⟩ := HK3.out.wd 0 x0 hx0
                cases ea
                exact hl⟩)
              have HN3 := Lib.hid (HNT.out.next hba)
              have HBA := Lib.hid hba
              clear hba
              go_wp2_with fail
              clear c1
              generalize w3.alloc (.cells #[.int .i64 (k : Int), .int .i64 t, .int .i64 0, .int .i64 0, .int .i16 0, .int .i64 0] 26) = W4 at *
              generalize hX : w3.heap.size = X at *
              go_loopw [58] (fun i wv => ∃ j : Nat, j ≤ M.length ∧ i = .int .i64 j ∧ ∃ ev, QX w ad X WL ev wv ∧ InE ev ∧ ev.kind = k ∧ ev.time = t ∧ Below X W4 wv ∧ (∀ i f, i < j → M[i]? = some f → WL[i + 2]? = some (Lib.itoa (getE ev f))) ∧ ∀ X', InE X' → validE X' = true → s.data.toList = lineN X' → X'.kind.toNat = k → ev = onlyE X' (M.take j)) (fun i _ => M.length - (intOf i).toNat)
              case atStart => exact ⟨0, by omega, rfl, _, HQX.out, inE_base ⟨by omega, by omega⟩ (sml64 bt), rfl, rfl, Below.refl _ _, (fun i f h => by omega), fun X' hx hv e h => by
                have h2 := (valid_ve hv).k
                have h3 := HTX.out X' hx hv e
                unfold onlyE
                simp only [List.take_zero, List.foldl_nil]
                rw [h3, ← h, Int.toNat_of_nonneg (by omega)]⟩
              case round =>
                obtain ⟨j, hj, rfl, ev, K, hin, hkd, htm, hbx, hwl, hxe⟩ := hrel
                have HIN := Lib.hid hin
                have HKD := Lib.hid (And.intro hkd htm)
                have HBX := Lib.hid hbx
                have HWL := Lib.hid hwl
                have HXE := Lib.hid hxe
                have HKV := Lib.hid K
                clear hin hkd htm hwl hxe HQX
                by_cases hlt : j < M.length
                · obtain ⟨adf, rfl, hadf, hcf⟩ := HNT.out.at_ j (rc M[j]) (by rw [List.getElem?_map, List.getElem?_eq_getElem hlt]; rfl)
                  rw [hX] at hadf
                  have hc : wr.cell? (adf.add j) = some (.int .i64 (rc M[j])) := (hbx.cell (by rw [block_of_add]; exact hadf)).trans ((HBA.out.cell (by rw [block_of_add]; exact hadf)).trans hcf)
                  obtain ⟨xj, hxj⟩ : ∃ z, WL[j + 2]? = some z := ⟨WL[j + 2], List.getElem?_eq_getElem (by omega)⟩
                  have cz := HKV.out.p.at_ hxj
                  have cz2 : wr.cell? ⟨ad.block, ad.off + (j + 2), none⟩ = some (.string ⟨xj.toArray⟩) := by simpa [Addr.add] using cz
                  have HXJ := Lib.hid (show ∀ X', InE X' → validE X' = true → s.data.toList = lineN X' → X'.kind.toNat = k ∧ xj = Lib.itoa (getE X' M[j]) from fun X' hx hv e => by
                    have h1 := HX1.out X' hx hv e
                    rw [HKWK.out] at h1
                    have h2 : X'.kind.toNat = k := (HKJ.out X'.kind.toNat (by have := (valid_ve hv).k; omega) h1).symm
                    refine ⟨h2, ?_⟩
                    rw [HW.out X' hx hv e] at hxj
                    unfold wordsL at hxj
                    rw [HFL.out X' h2, List.getElem?_cons_succ, List.getElem?_cons_succ, List.getElem?_map, List.getElem?_eq_getElem hlt] at hxj
                    exact (Option.some.inj hxj).symm)
                  have HOKX := Lib.hid (show ∀ X', InE X' → validE X' = true → s.data.toList = lineN X' → okF M[j] (getE X' M[j]) = true from fun X' hx hv e => (valid_ve hv).f _ (by rw [HFL.out X' (HXJ.out X' hx hv e).1]; exact List.getElem_mem hlt))
                  have HFI := Lib.hid (HIF.out M[j] (List.getElem_mem hlt))
                  have HOT := Lib.hid (fun X' : Ev => onlyE_take (e := X') hlt)
                  have HMJ := Lib.hid (fun n => HMR.out n M[j] (List.getElem_mem hlt))
                  have HAJ := Lib.hid (show ∀ i f', i < j → M[i]? = some f' → isF f' ∧ ¬ (M[j] = f' ∨ (M[j] = 2 ∧ f' = 3) ∨ (M[j] = 3 ∧ f' = 2)) from fun i f' hi hf' => by
                    have h1 := HAP.out j hlt i hi
                    have h2 : M.getD j 0 = M[j] := by rw [List.getD_eq_getElem?_getD, List.getElem?_eq_getElem hlt]; rfl
                    have h3 : M.getD i 0 = f' := by rw [List.getD_eq_getElem?_getD, hf']; rfl
                    rw [h2, h3] at h1
                    exact ⟨HIF.out f' (List.mem_of_getElem? hf'), h1⟩)
                  have HMS := Lib.hid (show ∀ i f', i < j + 1 → M[i]? = some f' → i < j ∨ (i = j ∧ f' = M[j]) from fun i f' hi hf' => by
                    by_cases h : i = j
                    · subst h
                      rw [List.getElem?_eq_getElem hlt] at hf'
                      exact .inr ⟨rfl, (Option.some.inj hf').symm⟩
                    · exact .inl (by omega))
                  have HXJW := Lib.hid hxj
                  have hzs : (⟨xj.toArray⟩ : ByteArray).size ≤ 200000 := by
                    have := HSZ.out xj (List.mem_of_getElem? hxj)
                    show xj.length ≤ _
                    omega
                  have HNJ := Lib.hid (fun W => number_c ⟨xj.toArray⟩ hzs W)
                  have hbd : (⟨xj.toArray⟩ : ByteArray).data.toList = xj := rfl
                  rw [hbd] at HNJ
                  clear hbd hzs hxj K hcf hbx
                  generalize M[j] = f at *
                  generalize (⟨xj.toArray⟩ : ByteArray) = zj at *
                  go_wp2_with fail
                  refine (HNJ.out _).mono ?_
                  rintro r w5 ⟨n, ok, rfl, bn, hyes, hno, hb5⟩
                  have HY := Lib.hid (And.intro hyes hno)
                  have HK5 := Lib.hid (HKV.out.next hb5)
                  have HBX5 := Lib.hid (HBX.out.trans (hb5.mono (Nat.le_of_lt HKV.out.e.lt)))
                  clear hb5 hyes hno HKV hc cz cz2
                  cases ok
                  · have HN := Lib.hid (show ∀ X, InE X → validE X = true → s.data.toList ≠ lineN X from fun X hx hv e => HY.out.2 rfl (getE X f) (by have := okF_b (HOKX.out X hx hv e); unfold Sml; omega) (HXJ.out X hx hv e).2)
                    obtain ⟨_, ⟨_, r0, r1, r2, r3, r4, r5, fr⟩, _⟩ := HK5.out.p
                    have f0 := fr 0
                    have f1 := fr 1
                    have f2 := fr 2
                    have f3 := fr 3
                    have f4 := fr 4
                    have f5 := fr 5
                    clear fr
                    go_wp2_with fail
                    exact bodyPost_ret (v := .tuple #[.agg #[.int .i64 0, .int .i64 0, .int .i64 0, .int .i64 0, .int .i16 0, .int .i64 0], .bool false]) (by simp [results, Tryd.results39, go_sem, *]) rfl (HQ0.out _ (HSB.out _ HK5.out.p.below) HN.out)
                  · have HXN := Lib.hid (show xj = Lib.itoa n from HY.out.1 rfl)
                    have HGN := Lib.hid (show ∀ X', InE X' → validE X' = true → s.data.toList = lineN X' → n = getE X' f from fun X' hx hv e => Dec.itoa_inj (HXN.out.symm.trans (HXJ.out X' hx hv e).2))
                    have hrcf := isF_rc HFI.out
                    go_wp2_with fail
                    refine (inRange_c _ _ _ hrcf _).mono ?_
                    rintro r w6 ⟨rfl, rfl⟩
                    rw [HMJ.out]
                    cases hok : okF f n
                    · have HOK := Lib.hid hok
                      have HN := Lib.hid (show ∀ X, InE X → validE X = true → s.data.toList ≠ lineN X from fun X hx hv e => by
                        have h1 := HOKX.out X hx hv e
                        rw [← HGN.out X hx hv e, HOK.out] at h1
                        cases h1)
                      clear hok
                      obtain ⟨_, ⟨_, r0, r1, r2, r3, r4, r5, fr⟩, _⟩ := HK5.out.p
                      have f0 := fr 0
                      have f1 := fr 1
                      have f2 := fr 2
                      have f3 := fr 3
                      have f4 := fr 4
                      have f5 := fr 5
                      clear fr
                      go_wp2_with fail
                      exact bodyPost_ret (v := .tuple #[.agg #[.int .i64 0, .int .i64 0, .int .i64 0, .int .i64 0, .int .i16 0, .int .i64 0], .bool false]) (by simp [results, Tryd.results39, go_sem, *]) rfl (HQ0.out _ (HSB.out _ HK5.out.p.below) HN.out)
                    · have HOK := Lib.hid hok
                      clear hok
                      obtain ⟨_, x0', x1', x2', x3', x4', x5', _⟩ := HK5.out.e
                      go_wp2_with fail
                      refine (with_l ev f n HFI.out (sml64 bn) _).mono ?_
                      rintro r w7 ⟨rfl, hb7⟩
                      have HK7 := Lib.hid (HK5.out.next hb7)
                      have HBX7 := Lib.hid (HBX5.out.trans (hb7.mono (Nat.le_of_lt HK5.out.e.lt)))
                      clear hb7 x0' x1' x2' x3' x4' x5'
                      have frX := HK7.out.e.fr
                      have f0 := frX 0
                      have f1 := frX 1
                      have f2 := frX 2
                      have f3 := frX 3
                      have f4 := frX 4
                      have f5 := frX 5
                      obtain ⟨_, x0', x1', x2', x3', x4', x5', _⟩ := HK7.out.e
                      have HKN := Lib.hid (And.intro (HK7.out.store (setE ev f n)) (store_below (e := setE ev f n) HBX7.out (Nat.le_refl _)))
                      clear frX HK5 HK7
                      go_wp2_with fail
                      go_roundw
                      case rel => exact ⟨j + 1, by omega, by go_num, setE ev f n, HKN.out.1, inE_set HIN.out f (sml64 bn), (setE_kind ev f n).trans HKD.out.1, (setE_time ev f n).trans HKD.out.2, HKN.out.2, (fun i f' hi hf' => by
                        rcases HMS.out i f' hi hf' with h | ⟨rfl, rfl⟩
                        · rw [getE_other ev n HFI.out (HAJ.out i f' h hf').1 (HAJ.out i f' h hf').2]
                          exact HWL.out i f' h hf'
                        · rw [getE_same ev HFI.out HOK.out, ← HXN.out]
                          exact HXJW.out), fun X' hx hv e h => by rw [HOT.out X', ← HXE.out X' hx hv e h, ← HGN.out X' hx hv e]⟩
                      case measure => simp [intOf]; omega
                · obtain rfl : j = M.length := by omega
                  have HFIN := Lib.hid (show ∀ X', InE X' → validE X' = true → s.data.toList = lineN X' → ev = X' from fun X' hx hv e => by
                    have h1 := HX1.out X' hx hv e
                    rw [HKWK.out] at h1
                    have h2 : X'.kind.toNat = k := (HKJ.out X'.kind.toNat (by have := (valid_ve hv).k; omega) h1).symm
                    rw [HXE.out X' hx hv e h2, List.take_length, ← HFL.out X' h2]
                    exact onlyE_flds hv)
                  have HLN := Lib.hid (show s.data.toList = lineN ev from by
                    have hkn : ev.kind.toNat = k := by rw [HKD.out.1, Int.toNat_natCast]
                    have h1 : WL = wordsL ev := by
                      apply List.ext_getElem?
                      intro i
                      unfold wordsL
                      rw [HFL.out ev hkn, hkn, HKD.out.2, ← HKWK.out, ← HXT.out]
                      match i with
                      | 0 => exact hx0
                      | 1 => exact hx1
                      | i + 2 =>
                        rw [List.getElem?_cons_succ, List.getElem?_cons_succ, List.getElem?_map]
                        by_cases hi : i < M.length
                        · rw [List.getElem?_eq_getElem hi]
                          exact HWL.out i _ hi (List.getElem?_eq_getElem hi)
                        · rw [List.getElem?_eq_none (by omega), List.getElem?_eq_none (by omega)]
                          rfl
                    have h2 := HMK.out
                    rw [h1, words_marked] at h2
                    exact (List.append_cancel_right h2).symm)
                  have HQV := Lib.hid (show ∀ W', Below w.heap.size w W' → EventP s.data.toList w (.returned (.tuple #[.agg #[.int .i64 ev.kind, .int .i64 ev.time, .int .i64 ev.task, .int .i64 ev.n, .int .i16 ev.value, .int .i64 ev.port], .bool (validE ev)])) W' from fun W' hb => ⟨ev, _, rfl, HIN.out, fun h => ⟨h, HLN.out⟩, (fun h X hx hv e => by
                    rw [HFIN.out X hx hv e, hv] at h
                    cases h), hb⟩)
                  have HSV := Lib.hid (show ∀ W', Below w.heap.size w W' → Below w.heap.size w ((((((W'.setCell ⟨w.heap.size, 0, none⟩ (.int .i64 ev.kind)).setCell ⟨w.heap.size, 1, none⟩ (.int .i64 ev.time)).setCell ⟨w.heap.size, 2, none⟩ (.int .i64 ev.task)).setCell ⟨w.heap.size, 3, none⟩ (.int .i64 ev.n)).setCell ⟨w.heap.size, 4, none⟩ (.int .i16 ev.value)).setCell ⟨w.heap.size, 5, none⟩ (.int .i64 ev.port)) from fun W' hb => store_below (e := ev) hb (Nat.le_refl _))
                  have hne : w.heap.size ≠ X := by have := HKV.out.lt; omega
                  have hfrs := HKV.out.p.r.fr
                  have f0 := hfrs 0
                  have f1 := hfrs 1
                  have f2 := hfrs 2
                  have f3 := hfrs 3
                  have f4 := hfrs 4
                  have f5 := hfrs 5
                  clear hfrs HX1 HKWK HKJ HXE HFL HWL HMK HW HSZ HXT HTX HKX HNX HSB HQ0 HNT HN3 HBA HBX hbx hx0 hx1
                  go_wp2_with fail
                  obtain ⟨⟨_, ⟨_, r0, r1, r2, r3, r4, r5, _⟩, _⟩, ⟨_, x0', x1', x2', x3', x4', x5', _⟩, _, _⟩ := HKV.out
                  have K' := HKV.out.next (World.drewB _)
                  clear K HKV
                  go_region_law (first
                    | (go_simp; go_at_call 12; (with_reducible refine (rvalid_l' ev HIN.out _).mono ?_); rintro r w9 ⟨rfl, hb9⟩; replace K' := K'.next hb9; have frX := K'.p.r.fr; have f0 := frX 0; have f1 := frX 1; have f2 := frX 2; have f3 := frX 3; have f4 := frX 4; have f5 := frX 5; obtain ⟨⟨_, ⟨_, r0, r1, r2, r3, r4, r5, _⟩, _⟩, ⟨_, x0', x1', x2', x3', x4', x5', _⟩, _, _⟩ := id K'; clear frX))
                  all_goals go_wp2_with fail
                  all_goals exact bodyPost_ret (v := .tuple #[.agg #[.int .i64 ev.kind, .int .i64 ev.time, .int .i64 ev.task, .int .i64 ev.n, .int .i16 ev.value, .int .i64 ev.port], .bool (validE ev)]) (by simp [results, Tryd.results39, go_sem, *]) rfl (HQV.out _ (HSV.out _ K'.p.below))
            · have hcI : ¬ (WL.length : Int) = (M.length : Int) + 2 := by omega
              have HSX := Lib.hid (show ∀ X, InE X → validE X = true → s.data.toList = lineN X → k + 1 ≤ X.kind.toNat from fun X hx hv e => HNX.out X hx hv e (fun h => by
                have h1 := congrArg List.length (HW.out X hx hv e)
                rw [wordsL, List.length_cons, List.length_cons, List.length_map, HFL.out X h] at h1
                omega))
              go_wp2_with fail
              go_roundw
              case rel => exact ⟨k + 1, by omega, by omega, by go_num, HK3.out, HSX.out⟩
              case measure => simp [intOf]; omega
          · have hqf : (kw == x1) = false := by simpa using hq
            have HSX := Lib.hid (show ∀ X, InE X → validE X = true → s.data.toList = lineN X → k + 1 ≤ X.kind.toNat from fun X hx hv e => HNX.out X hx hv e (fun h => hq (by
              have h1 := HX1.out X hx hv e
              rw [h1, h]
              exact HKWK.out)))
            go_wp2_with fail
            go_roundw
            case rel => exact ⟨k + 1, by omega, by omega, by go_num, HK3.out, HSX.out⟩
            case measure => simp [intOf]; omega
        · obtain rfl : k = 13 := by omega
          have HN := Lib.hid (show ∀ X, InE X → validE X = true → s.data.toList ≠ lineN X from fun X hx hv e => by
            have h1 := HKX.out X hx hv e
            have h2 := (valid_ve hv).k
            omega)
          obtain ⟨_, ⟨_, r0, r1, r2, r3, r4, r5, fr⟩, _⟩ := HKB.out
          have f0 := fr 0
          have f1 := fr 1
          have f2 := fr 2
          have f3 := fr 3
          have f4 := fr 4
          have f5 := fr 5
          clear fr
          go_wp2_with fail
          exact bodyPost_ret (v := .tuple #[.agg #[.int .i64 0, .int .i64 0, .int .i64 0, .int .i64 0, .int .i16 0, .int .i64 0], .bool false]) (by simp [results, Tryd.results39, go_sem, *]) rfl (HQ0.out _ (HSB.out _ HKB.out.below) HN.out)
end Go.Proofs.YtdfconiahfdhbaaDoor
