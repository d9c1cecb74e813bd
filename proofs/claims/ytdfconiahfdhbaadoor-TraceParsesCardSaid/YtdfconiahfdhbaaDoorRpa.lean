/-
  The reference's Parse.
-/
import Derived.Test.YtdfconiahfdhbaaDoorRpe
import Derived.Test.YtdfconiahfdhbaaDoorPrs
namespace Go.Proofs.YtdfconiahfdhbaaDoor
open Go.RowKit
attribute [local go_sem ↓] Go.wp_at_zero Go.wp_at_succ

structure RpI (w1 : World) (l : List Ev) (v : Value) (W : World) : Prop where
  below : Below w1.heap.size w1 W
  own : W.ownsRow w1.heap.size 26 6 v l.length (flat l)
theorem RpI.next {w1 W W' : World} {l : List Ev} {v : Value} (h : RpI w1 l v W) (hb : Below W.heap.size W W') : RpI w1 l v W' := ⟨bt h.below hb, owns_below h.own hb⟩
theorem marked_take (c : UInt8) (l : List (List UInt8)) {j : Nat} (hj : j < l.length) : marked c (l.take (j + 1)) = marked c (l.take j) ++ (l[j] ++ [c]) := by rw [List.take_succ_eq_append_getElem hj, marked_snoc]
theorem marked_split (c : UInt8) (l : List (List UInt8)) {j : Nat} (hj : j < l.length) : marked c l = marked c (l.take j) ++ (l[j] ++ c :: marked c (l.drop (j + 1))) := by
  have h : l = l.take j ++ (l[j] :: l.drop (j + 1)) := by rw [List.getElem_cons_drop]; exact (List.take_append_drop j l).symm
  have e : ∀ a b : List (List UInt8), marked c (a ++ b) = marked c a ++ marked c b := fun a b => by unfold marked; simp
  have e2 : ∀ (z : List UInt8) (k : List (List UInt8)), marked c (z :: k) = z ++ c :: marked c k := fun z k => by unfold marked; simp
  have h3 := congrArg (marked c) h
  rw [e, e2] at h3
  exact h3
set_option maxRecDepth 100000 in
set_option maxHeartbeats 4000000 in
theorem rparse_c (s : ByteArray) (hs : s.size ≤ 100000) (w : World) : Calls Tryd.prog 16 #[.string s] w (ParsesP s.data.toList w) := by
  obtain ⟨i26, hi, hz0, hz1, hz2⟩ := info_parts info26
  go_enter Tryd.func16, Tryd.ntmps16
  go_wp2_with fail
  refine (rsplit_c s hs 10 _).mono ?_
  rintro e w1 ⟨WL, A, cap, rfl, hcap, hno, hmk, hS, hb1⟩
  obtain ⟨ini, last, rfl⟩ : ∃ ini last, WL = ini ++ [last] := by
    rcases List.eq_nil_or_concat WL with h | ⟨a, b, h⟩
    · rw [h] at hmk; simp [marked] at hmk
    · exact ⟨a, b, by rw [h, List.concat_eq_append]⟩
  have hst : s.data.toList = marked 10 ini ++ last := by
    rw [marked_snoc, ← List.append_assoc] at hmk
    exact (List.append_cancel_right hmk).symm
  have hll : (ini ++ [last]).length = ini.length + 1 := by simp
  have hml : ini.length ≤ 100000 := by
    have h : ∀ l : List (List UInt8), l.length ≤ (marked 10 l).length := fun l => by
      induction l with
      | nil => simp
      | cons x l ih => rw [show marked 10 (x :: l) = (x ++ [10]) ++ marked 10 l from rfl]; simp only [List.length_append, List.length_cons, List.length_nil]; omega
    have h1 := h ini
    have h2 := congrArg List.length hst
    rw [List.length_append, dlen] at h2
    omega
  have hmI : (ini.length : Int) ≤ 100000 := by omega
  rw [hll] at hcap ⊢
  have HST := Lib.hid hst
  have HNO := Lib.hid hno
  have HS := Lib.hid hS
  have HB1 := Lib.hid hb1
  clear hno hmk hS hb1 hst hll
  go_wp2_with fail
  go_loopw [5, 19] (fun v i wr => ∃ (j : Nat) (l : List Ev), j ≤ ini.length ∧ i = .int .i64 j ∧ l.length = j ∧ txt l = marked 10 (ini.take j) ∧ Vld l ∧ RpI w1 l v wr) (fun _ i _ => ini.length - (intOf i).toNat)
  case atStart => exact ⟨0, [], by omega, rfl, rfl, by simp [txt, marked], Vld.nil, ⟨Below.refl _ _, World.ownsRow_nil _ _ _ _⟩⟩
  case round =>
    obtain ⟨j, l, hj, rfl, hlj, htx, hv, K⟩ := hrel
    have HTX := Lib.hid htx
    have HV := Lib.hid hv
    have HK := Lib.hid K
    have hsz1 := K.below.size
    clear htx hv K
    by_cases hlt : j < ini.length
    · have hij : (ini ++ [last])[j]? = some ini[j] := by rw [List.getElem?_append_left hlt, List.getElem?_eq_getElem hlt]
      obtain ⟨ad, rfl, had, hc⟩ := HS.out j _ hij
      have hc' := (HK.out.below.cell (by rw [block_of_add]; exact had)).trans hc
      have HSP := Lib.hid (marked_split 10 ini hlt)
      have HTK := Lib.hid (marked_take 10 ini hlt)
      have HN10 := Lib.hid (show (10 : UInt8) ∉ ini[j] from HNO.out _ (List.mem_of_getElem? hij))
      have hls : (⟨ini[j].toArray⟩ : ByteArray).size ≤ 100000 := by
        have h2 := congrArg List.length HST.out
        have h3 := congrArg List.length HSP.out
        simp only [List.length_append, List.length_cons] at h2 h3
        rw [dlen] at h2
        show ini[j].length ≤ _
        omega
      have HEV := Lib.hid (fun W => revent_c ⟨ini[j].toArray⟩ hls W)
      have hbd : (⟨ini[j].toArray⟩ : ByteArray).data.toList = ini[j] := rfl
      rw [hbd] at HEV
      clear hbd hls hij hc
      generalize ini[j] = x at *
      generalize (⟨x.toArray⟩ : ByteArray) = z at *
      go_wp2_with fail
      refine (HEV.out _).mono ?_
      rintro r w3 ⟨ev, ok, rfl, hin, hyes, hno, hb3⟩
      have HY := Lib.hid (And.intro hin (And.intro hyes hno))
      have HK3 := Lib.hid (HK.out.next hb3)
      clear hin hyes hno hb3 hc'
      cases ok
      · have hba := ba w3 (.cells #[.int .i64 ev.kind, .int .i64 ev.time, .int .i64 ev.task, .int .i64 ev.n, .int .i16 ev.value, .int .i64 ev.port] 26)
        have HBF := Lib.hid (bt HB1.out (bt HK3.out.below hba))
        have HNX := Lib.hid (HY.out.2.2 rfl)
        clear hba HY
        go_wp2_with fail
        go_ret3
        exact ⟨l, x ++ 10 :: (marked 10 (ini.drop (j + 1)) ++ last), by rw [HST.out, HSP.out, HTX.out]; simp, HV.out, .inr ⟨by simp, stuck_line HN10.out (fun e he hv h => HNX.out e he hv (List.append_cancel_right h)), by rw [hlj]; rfl⟩, HBF.out⟩
      · obtain ⟨hvx, hfx⟩ := HY.out.2.1 rfl
        have HIX := Lib.hid (And.intro HY.out.1 (And.intro hvx hfx))
        have hb4 := ba w3 (.cells #[.int .i64 ev.kind, .int .i64 ev.time, .int .i64 ev.task, .int .i64 ev.n, .int .i16 ev.value, .int .i64 ev.port] 26)
        have hb5 := ba (w3.alloc (.cells #[.int .i64 ev.kind, .int .i64 ev.time, .int .i64 ev.task, .int .i64 ev.n, .int .i16 ev.value, .int .i64 ev.port] 26)) (.cells #[.int .i64 ev.kind, .int .i64 ev.time, .int .i64 ev.task, .int .i64 ev.n, .int .i16 ev.value, .int .i64 ev.port] 26)
        have HK5 := Lib.hid ((HK3.out.next hb4).next hb5)
        have hown := HK5.out.own
        have hz1' := HK5.out.below.size
        have h1c : ∀ u ∈ cellsE ev, u.oneCell' = true := by
          intro u hu
          simp only [cellsE, List.mem_cons, List.not_mem_nil, or_false] at hu
          rcases hu with rfl | rfl | rfl | rfl | rfl | rfl <;> rfl
        have hnew := World.news_of_block (cs := #[.int .i64 ev.kind, .int .i64 ev.time, .int .i64 ev.task, .int .i64 ev.n, .int .i16 ev.value, .int .i64 ev.port]) (t := 26) (fr := (0, 0)) (heap_alloc_new (w3.alloc (.cells #[.int .i64 ev.kind, .int .i64 ev.time, .int .i64 ev.task, .int .i64 ev.n, .int .i16 ev.value, .int .i64 ev.port] 26)) _)
        rw [World.size_alloc] at hnew
        have hll : l.length ≤ 100000 := by omega
        clear HY hvx hfx hb4 hb5
        go_wp2_with (at_builtin; refine wpList_append_own _ rfl _ _ 22 rfl w1.heap.size 26 i26 _ 6 48 Tryd.underlying22 hi hz0 hz1 hz2 rfl (by decide) _ l.length (flat l) rfl hown ⟨w3.heap.size + 1, 0, none⟩ 1 1 (cellsE ev) rfl rfl hnew h1c (by unfold maxLen; omega) (by omega) (by omega) ?_; intro v' w5 hown1 hgrow _)
        have hl2 : (l ++ [ev]).length = l.length + 1 := by simp
        have hb6 : Below w1.heap.size w1 w5 := HK5.out.below.grown hgrow hz1' (fun k e => (hown.lt _ e).1)
        go_roundw
        case rel => exact ⟨j + 1, l ++ [ev], by omega, by go_num, by rw [hl2, hlj], by rw [txt_snoc, HTX.out, HTK.out, HIX.out.2.2]; rfl, HV.out.snoc HIX.out.1 HIX.out.2.1, ⟨hb6, by rw [hl2, flat_snoc]; exact hown1⟩⟩
        case measure => simp [intOf]; omega
    · obtain rfl : j = ini.length := by omega
      have hil : (ini ++ [last])[ini.length]? = some last := by simp
      obtain ⟨ad, rfl, had, hc⟩ := HS.out ini.length _ hil
      have hc' := (HK.out.below.cell (by rw [block_of_add]; exact had)).trans hc
      have HN10 := Lib.hid (show (10 : UInt8) ∉ last from HNO.out _ (List.mem_of_getElem? hil))
      rw [List.take_length] at HTX
      obtain ⟨Ae, cape, rfl, hE⟩ := Evs.of_own HK.out.own
      have HE := Lib.hid hE
      have HBF := Lib.hid (bt HB1.out HK.out.below)
      clear hc hil hE
      by_cases hle : last = []
      · subst hle
        go_wp2_with fail
        go_ret3
        exact ⟨l, [], by rw [HST.out, HTX.out], HV.out, .inl ⟨rfl, Ae, cape, rfl, HE.out⟩, HBF.out⟩
      · have hle2 : last.isEmpty = false := by simpa using hle
        have HLE := Lib.hid hle
        have hbe : (⟨last.toArray⟩ : ByteArray).toList.isEmpty = false := by rw [Lib.toList_data]; exact hle2
        clear hle hle2
        generalize (⟨last.toArray⟩ : ByteArray) = z at *
        go_wp2_with fail
        go_ret3
        exact ⟨l, last, by rw [HST.out, HTX.out], HV.out, .inr ⟨HLE.out, stuck_none HN10.out, by rw [hlj]; rfl⟩, HBF.out⟩
end Go.Proofs.YtdfconiahfdhbaaDoor
