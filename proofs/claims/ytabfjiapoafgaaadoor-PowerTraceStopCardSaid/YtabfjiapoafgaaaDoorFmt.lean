/-
  Format.
-/
import Derived.Test.YtabfjiapoafgaaaDoorWrd
namespace Go.Proofs.YtabfjiapoafgaaaDoor
open Go.RowKit
set_option linter.unusedVariables false
attribute [local go_sem ↓] Go.wp_at_zero Go.wp_at_succ

def wordB (p : Int × Int) : ByteArray := ⟨(wordT p).toArray⟩
def wrow (l : List (Int × Int)) : List Value := l.map fun p => .string (wordB p)
theorem join_len (l : List (Int × Int)) (h : InP l) : (fmtT l).length ≤ l.length * 44 := by
  cases hl : l with
  | nil => simp [fmtT, Lib.join_nil]
  | cons x r =>
    have h1 := fmtT_txt l (by rw [hl]; simp)
    have h2 : ∀ m : List (Int × Int), InP m → (txt m).length ≤ m.length * 44 := by
      intro m
      induction m with
      | nil => intro _; simp [txt_nil]
      | cons y m ih =>
        intro hm
        have := ih (fun z hz => hm z (by simp [hz]))
        have h3 := wordT_len y (hm y (by simp)).1 (hm y (by simp)).2
        rw [txt_cons]
        simp
        omega
    have h3 := h2 l h
    rw [← h1] at h3
    rw [← hl]
    simp at h3
    omega
theorem validL_in {l : List (Int × Int)} (h : validL l = true) : InP l := fun x hx => by
  unfold validL at h
  rw [List.all_eq_true] at h
  have := validP_iff.1 (h x hx)
  exact ⟨⟨by omega, by omega⟩, ⟨by omega, by omega⟩⟩
/-- the text of a schedule, if it is valid -/
def fmtV (l : List (Int × Int)) : List UInt8 := if validL l = true then fmtT l else []
theorem fmtV_t {l : List (Int × Int)} (h : validL l = true) : fmtV l = fmtT l := if_pos h
theorem fmtV_f {l : List (Int × Int)} (h : ¬ validL l = true) : fmtV l = [] := if_neg h
set_option maxRecDepth 100000 in
set_option maxHeartbeats 1000000 in
theorem format_c (l : List (Int × Int)) (hl : l.length ≤ 100000) (A : Option Addr) (cap : Nat) (w : World) (hr : Ready w) (C : Prs w A l) : Calls Tryd.prog 12 #[.slice A l.length cap] w fun e w' => e = .returned (.string ⟨(fmtV l).toArray⟩) ∧ Below w.heap.size w w' := by
  obtain ⟨i9, hi, hz0, hz1, hz2⟩ := info_parts info9
  have HC := Lib.hid C
  have HR := Lib.hid hr
  have hlI : (l.length : Int) ≤ 100000 := by omega
  clear C hr
  go_enter Tryd.func12, Tryd.ntmps12
  go_wp2_with fail
  refine (validS_c l (by omega) A cap _ HC.out).mono ?_
  rintro e w1 ⟨rfl, hb1⟩
  by_cases hv : validL l = true
  · have HV := Lib.hid hv
    have HIN := Lib.hid (validL_in hv)
    rw [hv]
    clear hv
    have HB1 := Lib.hid hb1
    clear hb1
    go_wp2_with fail
    go_loopw [3, 11] (fun v i wr => ∃ k : Nat, k ≤ l.length ∧ i = .int .i64 k ∧ Below w.heap.size w wr ∧ wr.ownsRow w.heap.size 9 1 v k (wrow (l.take k))) (fun _ i _ => l.length - (intOf i).toNat)
    case atStart => exact ⟨0, by omega, rfl, HB1.out, World.ownsRow_nil _ _ _ _⟩
    case round =>
      obtain ⟨k, hk, rfl, hbr, hown⟩ := hrel
      have HB := Lib.hid hbr
      have hsz := hbr.size
      have HO := Lib.hid hown
      by_cases hlt : k < l.length
      · obtain ⟨ad, rfl, had, c0, c1⟩ := (HC.out.next hbr).at_ k _ (List.getElem?_eq_getElem hlt)
        rw [← add_of_add, add_one] at c1
        have HT := Lib.hid (show wrow (l.take (k + 1)) = wrow (l.take k) ++ [.string (wordB l[k])] from by unfold wrow; rw [List.take_succ_eq_append_getElem hlt, List.map_append]; rfl)
        have HX := Lib.hid (HIN.out l[k] (List.getElem_mem hlt))
        generalize l[k] = x at *
        obtain ⟨a, b⟩ := x
        clear hbr hown
        go_wp2_with fail
        have hb2 := ba wr (.cells #[.int .i64 a, .int .i64 b] 38)
        refine (word_c a b HX.out.1 HX.out.2 _ ((HR.out.below HB.out).below hb2)).mono ?_
        rintro e w3 ⟨rfl, hb3⟩
        have HB3 := Lib.hid (bt HB.out (bt hb2 hb3))
        have hown := (owns_below (owns_below HO.out hb2) hb3).alloc (.cells #[.string (wordB (a, b))] 9)
        have hnew : ∀ (j : Nat) u, [Value.string (wordB (a, b))][j]? = some u → (w3.alloc (.cells #[.string (wordB (a, b))] 9)).cell? ((⟨w3.heap.size, 0, none⟩ : Addr).add j) = some u := World.news_of_block (cs := #[.string (wordB (a, b))]) (t := 9) (fr := (0, 0)) (heap_alloc_new w3 _)
        have hsz3 := HB3.out.size
        have h1c : ∀ u ∈ [Value.string (wordB (a, b))], u.oneCell' = true := by intro u hu; rw [List.mem_singleton.1 hu]; rfl
        clear hb2 hb3 c0 c1
        rw [show (⟨(wordT (a, b)).toArray⟩ : ByteArray) = wordB (a, b) from rfl]
        generalize wordB (a, b) = wb at *
        go_wp2_with (at_builtin; refine wpList_append_own _ rfl _ _ 64 rfl w.heap.size 9 i9 _ 1 16 Tryd.underlying64 hi hz0 hz1 hz2 rfl (by decide) _ _ _ rfl hown ⟨w3.heap.size, 0, none⟩ 1 1 [.string wb] rfl rfl hnew h1c (by unfold maxLen; omega) (by omega) (by simp; omega) ?_; intro v1 w7 hown1 hgrow1 hnil1)
        go_roundw
        case rel =>
          refine ⟨k + 1, by omega, by go_num, ?_, by rw [HT.out]; exact hown1⟩
          exact (HB3.out.alloc hsz3 _).grown hgrow1 (by simp; omega) (fun j hj => (hown.lt j hj).1)
        case measure => simp [intOf]; omega
      · obtain rfl : k = l.length := by omega
        rw [List.take_length] at hown
        have HF := Lib.hid (show (Lib.join ((l.map wordB).map (·.data.toList)) (⟨#[32]⟩ : ByteArray).data.toList) = fmtT l from by
          unfold fmtT; rw [List.map_map]; rfl)
        have HL := Lib.hid (join_len l HIN.out)
        have hrow := hown
        obtain ⟨hlen, ⟨rfl, hx⟩ | ⟨g, cp, cur, rfl, hg, hh, h1, h2, h3, h4⟩⟩ := hown
        · have hl0 : l = [] := List.eq_nil_of_length_eq_zero hx
          have hx0 := hx
          have HJ := Lib.hid (fun W => Tryd.strings_Join_none none 0 ⟨#[32]⟩ W)
          go_wp2_with fail
          refine (HJ.out _).mono ?_
          rintro e w4 ⟨rfl, rfl⟩
          go_wp2_with fail
          go_ret
          exact ⟨ret_str (by rw [fmtV_t HV.out, hl0]; rfl), HB.out⟩
        · have hgl : g < wr.heap.size := (Array.getElem?_eq_some_iff.1 hh).1
          have hcells := hrow.cells (g := g) rfl
          have HCL := Lib.hid (show ∀ (j : Nat) x, (l.map wordB)[j]? = some x → wr.cell? ⟨g, 0 + j, none⟩ = some (.string x) from fun j x hj => by
            have := hcells j (.string x) (by unfold wrow; rw [List.getElem?_map] at hj ⊢; cases q : l[j]? with
              | none => rw [q] at hj; cases hj
              | some y => rw [q] at hj; cases hj; rfl)
            rw [Nat.zero_add]
            have ha : (⟨g, 0, none⟩ : Addr).add j = ⟨g, j, none⟩ := by unfold Addr.add; split <;> simp_all
            rw [← ha]
            simpa using this)
          have HLC := Lib.hid (show l.length ≤ cp from by omega)
          have HJ := Lib.hid (Tryd.strings_Join g 0 cp (l.map wordB) ⟨#[32]⟩ wr HCL.out hgl (by simp; omega) (by simpa using HLC.out) (by rw [HF.out]; have := HL.out; omega))
          rw [HF.out, List.length_map] at HJ
          clear hrow hh h1 h2 h3 h4 hcells
          go_wp2_with fail
          refine HJ.out.mono ?_
          rintro e w4 ⟨rfl, hb4⟩
          go_wp2_with fail
          go_ret
          exact ⟨ret_str (by rw [fmtV_t HV.out]), bt HB.out hb4⟩
  · have hv' : validL l = false := by simpa using hv
    have HV := Lib.hid hv
    rw [hv']
    clear hv hv'
    go_wp2_with fail
    go_ret
    exact ⟨ret_str (by rw [fmtV_f HV.out]), hb1⟩
theorem fmtT_take {l : List (Int × Int)} {k : Nat} (hk : k < l.length) : fmtT (l.take (k + 1)) = if k = 0 then wordT l[k] else fmtT (l.take k) ++ [32] ++ wordT l[k] := by
  by_cases h : k = 0
  · subst h
    rw [if_pos rfl, List.take_succ_eq_append_getElem hk, List.take_zero, List.nil_append]
    unfold fmtT
    rw [List.map_cons, List.map_nil, join_one]
  · rw [if_neg h]
    have h1 : l.take k ≠ [] := fun e => by have := congrArg List.length e; rw [List.length_take, List.length_nil] at this; omega
    have h2 : l.take (k + 1) ≠ [] := fun e => by have := congrArg List.length e; rw [List.length_take, List.length_nil] at this; omega
    have e1 := fmtT_txt _ h1
    have e2 := fmtT_txt _ h2
    rw [List.take_succ_eq_append_getElem hk, txt_snoc, ← e1, ← List.append_assoc] at e2
    rw [List.take_succ_eq_append_getElem hk]
    exact List.append_cancel_right e2
/-- a schedule that is read while digits are written -/
structure BL (w0 : World) (A : Option Addr) (l : List (Int × Int)) (W : World) : Prop where
  below : Below w0.heap.size w0 W
  prs : Prs W A l
theorem BL.next {w0 W W' : World} {A : Option Addr} {l : List (Int × Int)} (h : BL w0 A l W) (hb : Below W.heap.size W W') : BL w0 A l W' := ⟨bt h.below hb, h.prs.next hb⟩
theorem BL.at_ {w0 W : World} {ad : Addr} {l : List (Int × Int)} (h : BL w0 (some ad) l W) {k : Nat} {x : Int × Int} (hx : l[k]? = some x) : W.cell? (ad.add (k * 2)) = some (.int .i64 x.1) ∧ W.cell? ⟨(ad.add (k * 2)).block, (ad.add (k * 2)).off + 1, none⟩ = some (.int .i64 x.2) := by
  obtain ⟨ad', e, -, c0, c1⟩ := h.prs.at_ k x hx
  cases e
  rw [← add_of_add, add_one] at c1
  exact ⟨c0, c1⟩
set_option maxRecDepth 100000 in
set_option maxHeartbeats 1000000 in
theorem rformat_c (l : List (Int × Int)) (hl : l.length ≤ 100000) (A : Option Addr) (cap : Nat) (w : World) (C : Prs w A l) : Calls Tryd.prog 16 #[.slice A l.length cap] w fun e w' => e = .returned (.string ⟨(fmtV l).toArray⟩) ∧ Below w.heap.size w w' := by
  have HC := Lib.hid C
  have hlI : (l.length : Int) ≤ 100000 := by omega
  clear C
  go_enter Tryd.func16, Tryd.ntmps16
  go_wp2_with fail
  refine (rvalidS_c l (by omega) A cap _ HC.out).mono ?_
  rintro e w1 ⟨rfl, hb1⟩
  by_cases hv : validL l = true
  · have HV := Lib.hid hv
    have HIN := Lib.hid (validL_in hv)
    rw [hv]
    clear hv
    have HB1 := Lib.hid hb1
    clear hb1
    go_wp2_with fail
    go_loopw [3, 4] (fun v i wr => ∃ k : Nat, k ≤ l.length ∧ i = .int .i64 k ∧ v = .string ⟨(fmtT (l.take k)).toArray⟩ ∧ BL w A l wr) (fun _ i _ => l.length - (intOf i).toNat)
    case atStart => exact ⟨0, by omega, rfl, rfl, HB1.out, HC.out.next HB1.out⟩
    case round =>
      obtain ⟨k, hk, rfl, rfl, K⟩ := hrel
      by_cases hlt : k < l.length
      · obtain ⟨ad, rfl, had, -, -⟩ := K.prs.at_ k _ (List.getElem?_eq_getElem hlt)
        have HAT := Lib.hid (fun W (h : BL w (some ad) l W) => h.at_ (List.getElem?_eq_getElem hlt))
        have hxv := validP_iff.1 (validL_at HV.out hlt)
        have HT := Lib.hid (fmtT_take hlt)
        have hxin := HIN.out l[k] (List.getElem_mem hlt)
        generalize l[k] = x at *
        obtain ⟨t, v⟩ := x
        obtain ⟨⟨t0, t1⟩, v0, v1⟩ := hxv
        have hk0 : (0 : Int) ≤ (k : Int) := by omega
        have hk1 : (k : Int) < (l.length : Int) := by omega
        have la := Lib.itoa_length_le t hxin.1.1 hxin.1.2
        have lb := Lib.itoa_length_le v hxin.2.1 hxin.2.2
        have hL : (fmtT (l.take k)).length ≤ 4400000 := by
          have := join_len (l.take k) (fun y hy => HIN.out y (List.mem_of_mem_take hy))
          rw [List.length_take] at this
          omega
        clear hxin
        have HD1 := Lib.hid (fun W => digits_i t t0 (by omega) W)
        have HD2 := Lib.hid (fun W => digits_i v (by omega) (by omega) W)
        by_cases hk00 : k = 0
        · subst hk00
          rw [if_pos rfl] at HT
          have HX := Lib.hid (show (⟨(fmtT (l.take (0 + 1))).toArray⟩ : ByteArray) = ⟨#[]⟩ ++ ⟨(Lib.itoa t).toArray⟩ ++ ⟨#[64]⟩ ++ ⟨(Lib.itoa v).toArray⟩ from by
            rw [HT.out, show (⟨#[64]⟩ : ByteArray) = ⟨([64] : List UInt8).toArray⟩ from rfl, show (⟨#[]⟩ : ByteArray) = ⟨([] : List UInt8).toArray⟩ from rfl, bytes_append, bytes_append, bytes_append]; rfl)
          have r1 := fun W => run_string_add_sum (P := Tryd.prog) W ⟨#[]⟩ ⟨(Lib.itoa t).toArray⟩ (by simp [ByteArray.size]; omega)
          have r2 := fun W => run_string_add_sum (P := Tryd.prog) W (⟨#[]⟩ ++ ⟨(Lib.itoa t).toArray⟩) ⟨#[64]⟩ (by simp [ByteArray.size]; omega)
          have r3 := fun W => run_string_add_sum (P := Tryd.prog) W (⟨#[]⟩ ++ ⟨(Lib.itoa t).toArray⟩ ++ ⟨#[64]⟩) ⟨(Lib.itoa v).toArray⟩ (by simp [ByteArray.size]; omega)
          rw [show (⟨(fmtT (l.take 0)).toArray⟩ : ByteArray) = ⟨#[]⟩ from rfl]
          go_wp2_with fail
          clear had
          generalize (⟨(Lib.itoa t).toArray⟩ : ByteArray) = bt1 at *
          generalize (⟨(Lib.itoa v).toArray⟩ : ByteArray) = bv1 at *
          replace K := K.next wr.drewB
          go_region_held3 (fun w' => w'.cell? ad = some (.int .i64 t) ∧ w'.cell? ⟨ad.block, ad.off + 1, none⟩ = some (.int .i64 v) ∧ BL w (some ad) l w') (first | exact ⟨(HAT.out _ K).1, (HAT.out _ K).2, K⟩ | go_keep)
            (first
              | (go_at_call 39; (with_reducible refine (HD1.out _).mono ?_); rintro e w1 ⟨rfl, hb1⟩; replace K := K.next hb1)
              | (go_at_call 39; (with_reducible refine (HD2.out _).mono ?_); rintro e w2 ⟨rfl, hb2⟩; replace K := K.next hb2))
          all_goals
            go_wp2_with fail
            go_roundw
            case rel => exact ⟨1, by omega, by go_num, by rw [HX.out], K⟩
            case measure => simp [intOf]; omega
        · have hkp : (0 : Int) < (k : Int) := by omega
          rw [if_neg hk00] at HT
          have HX := Lib.hid (show (⟨(fmtT (l.take (k + 1))).toArray⟩ : ByteArray) = ⟨(fmtT (l.take k)).toArray⟩ ++ ⟨#[32]⟩ ++ ⟨(Lib.itoa t).toArray⟩ ++ ⟨#[64]⟩ ++ ⟨(Lib.itoa v).toArray⟩ from by
            rw [HT.out, show (⟨#[64]⟩ : ByteArray) = ⟨([64] : List UInt8).toArray⟩ from rfl, show (⟨#[32]⟩ : ByteArray) = ⟨([32] : List UInt8).toArray⟩ from rfl, bytes_append, bytes_append, bytes_append, bytes_append]
            unfold wordT
            simp)
          have r0 := fun W => run_string_add_sum (P := Tryd.prog) W ⟨(fmtT (l.take k)).toArray⟩ ⟨#[32]⟩ (by simp [ByteArray.size]; omega)
          have r1 := fun W => run_string_add_sum (P := Tryd.prog) W (⟨(fmtT (l.take k)).toArray⟩ ++ ⟨#[32]⟩) ⟨(Lib.itoa t).toArray⟩ (by simp [ByteArray.size]; omega)
          have r2 := fun W => run_string_add_sum (P := Tryd.prog) W (⟨(fmtT (l.take k)).toArray⟩ ++ ⟨#[32]⟩ ++ ⟨(Lib.itoa t).toArray⟩) ⟨#[64]⟩ (by simp [ByteArray.size]; omega)
          have r3 := fun W => run_string_add_sum (P := Tryd.prog) W (⟨(fmtT (l.take k)).toArray⟩ ++ ⟨#[32]⟩ ++ ⟨(Lib.itoa t).toArray⟩ ++ ⟨#[64]⟩) ⟨(Lib.itoa v).toArray⟩ (by simp [ByteArray.size]; omega)
          generalize (⟨(fmtT (l.take k)).toArray⟩ : ByteArray) = B at *
          go_wp2_with fail
          clear had
          generalize (⟨(Lib.itoa t).toArray⟩ : ByteArray) = bt1 at *
          generalize (⟨(Lib.itoa v).toArray⟩ : ByteArray) = bv1 at *
          replace K := K.next wr.drewB
          go_region_held3 (fun w' => w'.cell? (ad.add (k * 2)) = some (.int .i64 t) ∧ w'.cell? ⟨(ad.add (k * 2)).block, (ad.add (k * 2)).off + 1, none⟩ = some (.int .i64 v) ∧ BL w (some ad) l w') (first | exact ⟨(HAT.out _ K).1, (HAT.out _ K).2, K⟩ | go_keep)
            (first
              | (go_at_call 39; (with_reducible refine (HD1.out _).mono ?_); rintro e w1 ⟨rfl, hb1⟩; replace K := K.next hb1)
              | (go_at_call 39; (with_reducible refine (HD2.out _).mono ?_); rintro e w2 ⟨rfl, hb2⟩; replace K := K.next hb2))
          all_goals
            go_wp2_with fail
            go_roundw
            case rel => exact ⟨k + 1, by omega, by go_num, by rw [HX.out], K⟩
            case measure => simp [intOf]; omega
      · obtain rfl : k = l.length := by omega
        rw [List.take_length]
        have HB := Lib.hid K.below
        clear K
        go_wp2_with fail
        go_ret
        exact ⟨ret_str (by rw [fmtV_t HV.out]), HB.out⟩
  · have hv' : validL l = false := by simpa using hv
    have HV := Lib.hid hv
    rw [hv']
    clear hv hv'
    go_wp2_with fail
    go_ret
    exact ⟨ret_str (by rw [fmtV_f HV.out]), hb1⟩
end Go.Proofs.YtabfjiapoafgaaaDoor
