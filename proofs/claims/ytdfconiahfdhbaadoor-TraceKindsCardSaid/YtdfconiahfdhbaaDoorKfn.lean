/-
  Kind's closure, handed the closure of TraceKinds.
-/
import Derived.Test.YtdfconiahfdhbaaDoorKcl
namespace Go.Proofs.YtdfconiahfdhbaaDoor
open Go.RowKit
attribute [local go_sem ↓] Go.wp_at_zero Go.wp_at_succ

/-- the indices of a kind, up to one beyond a limit -/
def selG (l : List Ev) (k c : Int) : Nat → List Nat
  | 0 => []
  | j + 1 => match l[j]? with
    | some e => if e.kind = k ∧ ((selG l k c j).length : Int) ≤ c then selG l k c j ++ [j] else selG l k c j
    | none => selG l k c j
section
variable {l : List Ev} {k c : Int} {j : Nat} {e : Ev}
theorem selG_yes (h : l[j]? = some e) (hk : e.kind = k) (hc : ((selG l k c j).length : Int) ≤ c) : selG l k c (j + 1) = selG l k c j ++ [j] := by
  show (match l[j]? with | some e => if e.kind = k ∧ ((selG l k c j).length : Int) ≤ c then selG l k c j ++ [j] else selG l k c j | none => selG l k c j) = _
  rw [h]; simp only; rw [if_pos ⟨hk, hc⟩]
theorem selG_no (h : l[j]? = some e) (hk : ¬ e.kind = k) : selG l k c (j + 1) = selG l k c j := by
  show (match l[j]? with | some e => if e.kind = k ∧ ((selG l k c j).length : Int) ≤ c then selG l k c j ++ [j] else selG l k c j | none => selG l k c j) = _
  rw [h]; simp only; rw [if_neg (fun q => hk q.1)]
theorem selG_full (hc : c < ((selG l k c j).length : Int)) : selG l k c (j + 1) = selG l k c j := by
  show (match l[j]? with | some e => if e.kind = k ∧ ((selG l k c j).length : Int) ≤ c then selG l k c j ++ [j] else selG l k c j | none => selG l k c j) = _
  split
  · rw [if_neg (fun q => by have := q.2; omega)]
  · rfl
theorem selG_or : selG l k c (j + 1) = selG l k c j ∨ selG l k c (j + 1) = selG l k c j ++ [j] := by
  show (match l[j]? with | some e => if e.kind = k ∧ ((selG l k c j).length : Int) ≤ c then selG l k c j ++ [j] else selG l k c j | none => selG l k c j) = _ ∨ (match l[j]? with | some e => if e.kind = k ∧ ((selG l k c j).length : Int) ≤ c then selG l k c j ++ [j] else selG l k c j | none => selG l k c j) = _
  split
  · split
    · exact .inr rfl
    · exact .inl rfl
  · exact .inl rfl
end
theorem selG_len (l : List Ev) (k c : Int) (j : Nat) : (selG l k c j).length ≤ j := by
  induction j with
  | zero => exact Nat.le_refl _
  | succ j ih =>
    rcases selG_or (l := l) (k := k) (c := c) (j := j) with h | h
    · rw [h]; omega
    · rw [h, List.length_append, List.length_singleton]; omega
theorem selG_stay {l : List Ev} {k c : Int} {j : Nat} (hc : c < ((selG l k c j).length : Int)) : ∀ d, selG l k c (j + d) = selG l k c j
  | 0 => rfl
  | d + 1 => by rw [← Nat.add_assoc, selG_full (by rw [selG_stay hc d]; exact hc), selG_stay hc d]
theorem selG_pre (l : List Ev) (k c : Int) (j : Nat) : ∀ d, ∃ r, selG l k c (j + d) = selG l k c j ++ r
  | 0 => ⟨[], by simp⟩
  | d + 1 => by
    obtain ⟨r, h⟩ := selG_pre l k c j d
    rw [← Nat.add_assoc]
    rcases selG_or (l := l) (k := k) (c := c) (j := j + d) with h' | h'
    · exact ⟨r, by rw [h', h]⟩
    · exact ⟨r ++ [j + d], by rw [h', h, List.append_assoc]⟩
def KDone (w0 : World) (BO BE BG BL BK base : Nat) (A : Option Addr) (cap : Nat) (l : List Ev) (k c : Int) (e : Ending) (w' : World) : Prop := e = .returned (.tuple #[]) ∧ ∃ v, KS w0 BO BE BG BL BK base A cap l k c true v (selG l k c l.length) w'
set_option maxRecDepth 100000 in
set_option maxHeartbeats 2000000 in
theorem kfn_c (w0 : World) (BO BE BG BL BK base : Nat) (a : KA w0 BO BE BG BL BK base) (A : Option Addr) (cap : Nat) (l : List Ev) (hl : l.length ≤ 80) (k c : Int) (hc : 0 ≤ c ∧ c ≤ 255) (KB : Nat) (v : Value) (w : World) (K : KS w0 BO BE BG BL BK base A cap l k c true v [] w)
    (h1 : w.cell? ⟨KB, 0, none⟩ = some (.slice A l.length cap)) :
    Calls Tryd.prog 40 #[.func (.func 19) #[] #[.pointer (some ⟨BO, 0, none⟩), .pointer (some ⟨BE, 0, none⟩), .pointer (some ⟨BG, 0, none⟩), .pointer (some ⟨BL, 0, none⟩)], .pointer (some ⟨KB, 0, none⟩), .pointer (some ⟨BK, 0, none⟩)] w (KDone w0 BO BE BG BL BK base A cap l k c) := by
  have hlI : (l.length : Int) ≤ 80 := by omega
  have HK := Lib.hid K
  clear K
  go_enter Tryd.func40, Tryd.ntmps40
  go_wp2_with fail
  go_loopw [8] (fun i wr => ∃ j : Nat, j ≤ l.length ∧ i = .int .i64 j ∧ ((selG l k c j).length : Int) ≤ c ∧ ∃ v, KS w0 BO BE BG BL BK base A cap l k c true v (selG l k c j) wr) (fun i _ => l.length - (intOf i).toNat)
  case atStart => exact ⟨0, by omega, rfl, hc.1, _, HK.out⟩
  case round =>
    obtain ⟨j, hj, rfl, hn, v, K⟩ := hrel
    by_cases hlt : j < l.length
    · have HL := Lib.hid (List.getElem?_eq_getElem hlt)
      obtain ⟨ad, rfl, EA⟩ := (K.evs.next K.below).at_ j _ HL.out
      have hsl := selG_len l k c j
      generalize l[j] = e at *
      have HK2 := Lib.hid (K.next a (ba wr (.cells #[.int .i64 e.kind, .int .i64 e.time, .int .i64 e.task, .int .i64 e.n, .int .i16 e.value, .int .i64 e.port] 26)))
      obtain ⟨_, a0, a1, a2, a3, a4, a5⟩ := EA
      have hkd := K.kd
      have hbk := K.sz
      have hbk2 := a.bk
      have hB : BK < wr.heap.size := by omega
      clear K
      by_cases hk : e.kind = k
      · have HS := Lib.hid (selG_yes HL.out hk hn)
        have HN := Lib.hid hn
        have HEK := Lib.hid hk
        have hkI : (e.kind == k) = true := by simpa using hk
        clear hk hn
        go_wp2_with fail
        refine (kcl_c w0 BO BE BG BL BK base a (some ad) cap l hl k c hc v (selG l k c j) (by omega) _ HK2.out j e HL.out).mono ?_
        rintro r w3 ⟨rfl, v', K3⟩
        have HK3 := Lib.hid K3
        clear K3
        by_cases hful : ((selG l k c j).length : Int) + 1 ≤ c
        · have hdf : decide (((selG l k c j).length : Int) + 1 ≤ c) = true := by simpa using hful
          go_wp2_with fail
          go_roundw
          case rel => exact ⟨j + 1, by omega, by go_num, by rw [HS.out, List.length_append, List.length_singleton]; omega, v', by rw [HS.out]; exact HK3.out⟩
          case measure => simp [intOf]; omega
        · have hdf : decide (((selG l k c j).length : Int) + 1 ≤ c) = false := by simpa using hful
          have HFIN := Lib.hid (show selG l k c l.length = selG l k c j ++ [j] from by
            have h1 := selG_stay (l := l) (k := k) (c := c) (j := j + 1) (by rw [HS.out, List.length_append, List.length_singleton]; omega) (l.length - (j + 1))
            rw [show j + 1 + (l.length - (j + 1)) = l.length from by omega, HS.out] at h1
            exact h1)
          go_wp2_with fail
          go_end0
          exact ⟨rfl, v', by rw [HFIN.out]; exact HK3.out⟩
      · have HS := Lib.hid (selG_no (k := k) (c := c) HL.out hk)
        have hkI : (e.kind == k) = false := by simpa using hk
        go_wp2_with fail
        go_roundw
        case rel => exact ⟨j + 1, by omega, by go_num, by rw [HS.out]; exact hn, v, by rw [HS.out]; exact HK2.out⟩
        case measure => simp [intOf]; omega
    · obtain rfl : j = l.length := by omega
      go_wp2_with fail
      go_end0
      exact ⟨rfl, v, K⟩
end Go.Proofs.YtdfconiahfdhbaaDoor
