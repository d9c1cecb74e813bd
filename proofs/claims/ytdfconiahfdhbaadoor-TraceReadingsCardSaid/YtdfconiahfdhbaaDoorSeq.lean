/-
  strings.SplitAfterSeq at a newline: its iterator, whatever the loop's body.
-/
import Derived.Test.YtdfconiahfdhbaaDoorRng
import Derived.Test.YtdfconiahfdhbaaDoorWds
import Derived.Shelf.Abstract
import Derived.Shelf.RegionOpen
import Derived.OwnWalkIn
import Derived.TacticsInMore
import Derived.LoopNIn
import Derived.LoopIn
namespace Go.Proofs.YtdfconiahfdhbaaDoor
open Go.RowKit Go.Shelf
attribute [local go_sem] Oper.semAt_some

theorem idx10 {p q : List UInt8} (h : (10 : UInt8) ∉ p) : Lib.indexByte (p ++ 10 :: q) 10 = p.length := by
  induction p with
  | nil => rfl
  | cons b p ih =>
    have hb : ¬ b = 10 := fun e => h (by simp [e])
    have hi := ih (fun e => h (by simp [e]))
    rw [List.cons_append]
    unfold Lib.indexByte
    rw [hi]
    simp [hb]
theorem idx10_none {p : List UInt8} (h : (10 : UInt8) ∉ p) : Lib.indexByte p 10 = -1 := by
  induction p with
  | nil => rfl
  | cons b p ih =>
    have hb : ¬ b = 10 := fun e => h (by simp [e])
    have hi := ih (fun e => h (by simp [e]))
    unfold Lib.indexByte
    rw [hi]
    simp [hb]
/-- where the first line ends -/
theorem first_line (r : List UInt8) : (Lib.indexByte r 10 = -1 ∧ (10 : UInt8) ∉ r) ∨ ∃ p q, r = p ++ 10 :: q ∧ (10 : UInt8) ∉ p ∧ Lib.indexByte r 10 = (p.length : Int) := by
  by_cases h : (10 : UInt8) ∈ r
  · obtain ⟨p, q, rfl, hp⟩ := List.eq_append_cons_of_mem h
    exact .inr ⟨p, q, rfl, hp, idx10 hp⟩
  · exact .inl ⟨idx10_none h, h⟩
/-- the iterator's own cells -/
structure It (S E V : Nat) (r : List UInt8) (W : World) : Prop where
  s : W.cell? ⟨S, 0, none⟩ = some (.string ⟨r.toArray⟩)
  sf : W.frozen? ⟨S, 0, none⟩ = false
  e : W.cell? ⟨E, 0, none⟩ = some (.string ⟨#[10]⟩)
  v : W.cell? ⟨V, 0, none⟩ = some (.int .i64 1)
def strSize (v : Option Value) : Nat := match v with | some (.string s) => s.size | _ => 0
theorem ext_left (p q : List UInt8) : (⟨(p ++ q).toArray⟩ : ByteArray).extract 0 p.length = ⟨p.toArray⟩ := by
  apply bytes_inj
  rw [Lib.extract_data]
  simp
theorem ext_right (p q : List UInt8) : (⟨(p ++ q).toArray⟩ : ByteArray).extract p.length (p ++ q).length = ⟨q.toArray⟩ := by
  apply bytes_inj
  rw [Lib.extract_data]
  simp
set_option maxRecDepth 100000 in
set_option maxHeartbeats 2000000 in
theorem iter54 {n : Nat} (hn : 1 ≤ n) (L S E V : Nat) (hES : E ≠ S) (hVS : V ≠ S) (tot : List UInt8) (ht : tot.length ≤ 1000000) (J : List UInt8 → List UInt8 → World → Prop) (Lv : World → Prop)
    (hJS : ∀ p r W v, J p r W → J p r (W.setCell ⟨S, 0, none⟩ v))
    (hY : ∀ p f r W, tot = p ++ (f ++ r) → ((∃ q, f = q ++ [10] ∧ (10 : UInt8) ∉ q) ∨ ((10 : UInt8) ∉ f ∧ r = [])) → J p (f ++ r) W → It S E V (f ++ r) W →
      YieldAt Fence.wide (n - 1) Tryd.prog L #[.string ⟨f.toArray⟩] W fun e W' => (e = .returned (.bool true) ∧ J (p ++ f) r W' ∧ It S E V (f ++ r) W') ∨ (e = .returned (.bool false) ∧ Lv W'))
    (W : World) (h0 : J [] tot W) (hI : It S E V tot W) :
    CallsIn Fence.wide n Tryd.prog 54 #[.func (.yield L) #[] #[], .pointer (some ⟨E, 0, none⟩), .pointer (some ⟨S, 0, none⟩), .pointer (some ⟨V, 0, none⟩)] W fun e W' => (∃ v, e = .returned v) ∧ (J tot [] W' ∨ Lv W') := by
  refine callsIn_of_wp Tryd.func54 rfl trivial ?_ rfl
  simp only [Tryd.ntmps54, List.size_toArray, List.length_cons, List.length_nil, Nat.reduceAdd, Nat.reduceSub, Array.replicate_succ, Array.replicate_zero, List.push_toArray, List.append_toArray, List.nil_append, List.cons_append]
  have e0 := hI.e
  have HI := Lib.hid (And.intro h0 hI)
  clear h0 hI
  gi_wp2
  gi_loopw [7] (fun _ wr => ∃ p r, tot = p ++ r ∧ J p r wr ∧ It S E V r wr) (fun _ wr => strSize (wr.cell? ⟨S, 0, none⟩))
  case atStart => exact ⟨[], tot, rfl, HI.out.1, HI.out.2⟩
  case round =>
    obtain ⟨p, r, hpr, hJ, hIt⟩ := hrel
    have hrl : r.length ≤ 1000000 := by rw [hpr, List.length_append] at ht; omega
    rcases first_line r with ⟨hix, hno⟩ | ⟨q, t, rfl, hq, hix⟩
    · obtain ⟨fn, tmps, assign, body, hy, hR⟩ := hY p r [] wr (by rw [List.append_nil]; exact hpr) (.inr ⟨hno, rfl⟩) (by rw [List.append_nil]; exact hJ) (by rw [List.append_nil]; exact hIt)
      obtain ⟨cs, fs, ce, cv⟩ := hIt
      have HP := Lib.hid hpr
      have hc := Tryd.strings_Index_one ⟨r.toArray⟩ 10
      rw [show (⟨r.toArray⟩ : ByteArray).data.toList = r from rfl, hix] at hc
      have HC := Lib.hid hc
      clear hc hix HI hpr hJ
      generalize (⟨r.toArray⟩ : ByteArray) = b at *
      gi_wp2_with (refine ⟨trivial, ?_⟩; gi_at_call 56; refine (callsIn_wide.2 (HC.out _)).mono ?_; rintro e w2 ⟨rfl, rfl⟩)
      refine hR.mono ?_
      rintro e W3 (⟨rfl, hJ3, hI3⟩ | ⟨rfl, hx3⟩)
      · gi_wp2
        go_end0
        exact ⟨⟨_, rfl⟩, .inl (by rw [HP.out]; exact hJ3)⟩
      · gi_wp2
        go_end0
        exact ⟨⟨_, rfl⟩, .inr hx3⟩
    · have hqt : q ++ 10 :: t = (q ++ [10]) ++ t := by simp
      have hx1 := ext_left (q ++ [10]) t
      have hx2 := ext_right (q ++ [10]) t
      rw [← hqt] at hx1 hx2
      obtain ⟨fn, tmps, assign, body, hy, hR⟩ := hY p (q ++ [10]) t wr (by rw [← hqt]; exact hpr) (.inl ⟨q, rfl, hq⟩) (by rw [← hqt]; exact hJ) (by rw [← hqt]; exact hIt)
      rw [← hqt] at hR
      obtain ⟨cs, fs, ce, cv⟩ := hIt
      have HP := Lib.hid hpr
      have HJS := Lib.hid hJS
      have hc := Tryd.strings_Index_one ⟨(q ++ 10 :: t).toArray⟩ 10
      rw [show (⟨(q ++ 10 :: t).toArray⟩ : ByteArray).data.toList = q ++ 10 :: t from rfl, hix] at hc
      have HC := Lib.hid hc
      have hbl : (⟨(q ++ 10 :: t).toArray⟩ : ByteArray).size = q.length + 1 + t.length := by simp [ByteArray.size]; omega
      have hfl : (q ++ [10]).length = q.length + 1 := by simp
      have hl2 : (q ++ 10 :: t).length = q.length + 1 + t.length := by simp; omega
      rw [hfl] at hx1
      rw [hfl, hl2] at hx2
      have HT2 := Lib.hid (show (⟨t.toArray⟩ : ByteArray).size = t.length from rfl)
      have hsl : (q.length : Int) + 1 + t.length ≤ 1000000 := by omega
      have hss : ∀ W' : World, It S E V (q ++ 10 :: t) W' → W'.cell? ⟨S, 0, none⟩ = some (.string ⟨(q ++ 10 :: t).toArray⟩) := fun W' h => h.s
      have HSS := Lib.hid hss
      clear hc hix HI hpr hJ hqt hfl hl2 hrl hss hY hJS
      generalize (⟨(q ++ 10 :: t).toArray⟩ : ByteArray) = b at *
      generalize (⟨(q ++ [10]).toArray⟩ : ByteArray) = b1 at *
      gi_wp2_with (refine ⟨trivial, ?_⟩; gi_at_call 56; refine (callsIn_wide.2 (HC.out _)).mono ?_; rintro e w2 ⟨rfl, rfl⟩)
      refine hR.mono ?_
      rintro e W3 (⟨rfl, hJ3, hI3⟩ | ⟨rfl, hx3⟩)
      · have s3 := HSS.out _ hI3
        obtain ⟨_, sf3, e3, v3⟩ := hI3
        have HJ3 := Lib.hid hJ3
        have HCS := Lib.hid cs
        clear cs fs ce cv hJ3 hR hy
        gi_wp2
        go_roundw
        case rel => exact ⟨p ++ (q ++ [10]), t, by rw [HP.out]; simp, HJS.out _ _ _ _ HJ3.out, by
          refine ⟨?_, ?_, ?_, ?_⟩ <;> go_simp⟩
        case measure =>
          go_simp
          rw [HCS.out]
          simp only [strSize]
          rw [HT2.out, hbl]
          omega
      · gi_wp2
        refine bodyPost_ret (results_none rfl _ _ _) rfl ?_
        exact ⟨⟨_, rfl⟩, .inr hx3⟩
end Go.Proofs.YtdfconiahfdhbaaDoor
