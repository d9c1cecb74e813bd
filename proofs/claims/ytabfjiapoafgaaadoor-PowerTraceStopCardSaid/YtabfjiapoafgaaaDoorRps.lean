/-
  The reference's Parse.
-/
import Derived.Test.YtabfjiapoafgaaaDoorRfp
namespace Go.Proofs.YtabfjiapoafgaaaDoor
open Go.RowKit
set_option linter.unusedVariables false
attribute [local go_sem ↓] Go.wp_at_zero Go.wp_at_succ

/-- how far the text has been read -/
structure RS (s : ByteArray) (l : List (Int × Int)) (cur rest : List UInt8) (f i : Nat) : Prop where
  is : s.data.toList ++ [32] = txt l ++ (cur ++ rest)
  no : (32 : UInt8) ∉ cur
  v : validL l = true
  hf : f = (txt l).length
  hi : i = f + cur.length
theorem RS.len {s : ByteArray} {l : List (Int × Int)} {cur rest : List UInt8} {f i : Nat} (h : RS s l cur rest f i) : s.size + 1 = i + rest.length := by
  have h1 := congrArg List.length h.is
  simp only [List.length_append, List.length_singleton] at h1
  have h2 := h.hf
  have h3 := h.hi
  have h4 : s.data.toList.length = s.size := rfl
  omega
theorem RS.start (s : ByteArray) : RS s [] [] (s.data.toList ++ [32]) 0 0 := ⟨rfl, by simp, rfl, rfl, rfl⟩
theorem RS.done {s : ByteArray} {l : List (Int × Int)} {cur : List UInt8} {f i : Nat} (h : RS s l cur [] f i) : s.data.toList ++ [32] = txt l ++ [] := by
  have h1 := h.is
  rw [List.append_nil] at h1 ⊢
  rcases List.eq_nil_or_concat cur with e | ⟨a, b, e⟩
  · rw [h1, e, List.append_nil]
  · rw [List.concat_eq_append] at e
    rw [e, ← List.append_assoc] at h1
    have h2 := List.append_inj_right' h1 rfl
    have h3 : (32 : UInt8) = b := by simpa using h2
    exact absurd (by rw [e, h3]; simp) h.no
theorem RS.at_ {s : ByteArray} {l : List (Int × Int)} {cur rest : List UInt8} {c : UInt8} {f i : Nat} (h : RS s l cur (c :: rest) f i) (hi : i < s.size) : s[i] = c := by
  have h1 : (s.data.toList ++ [32])[i]? = some c := by
    rw [h.is, ← List.append_assoc, List.getElem?_append_right (by rw [List.length_append, ← h.hf, ← h.hi]; exact Nat.le_refl _)]
    rw [List.length_append, ← h.hf, ← h.hi, Nat.sub_self]
    rfl
  rw [List.getElem?_append_left (by simpa using hi)] at h1
  have h2 : s.data.toList[i]? = some s[i] := List.getElem?_eq_getElem (by simpa using hi)
  rw [h2] at h1
  exact Option.some.inj h1
theorem RS.end_ {s : ByteArray} {l : List (Int × Int)} {cur rest : List UInt8} {c : UInt8} {f i : Nat} (h : RS s l cur (c :: rest) f i) (hi : ¬ i < s.size) : c = 32 := by
  have hl := h.len
  rw [List.length_cons] at hl
  have hr : rest = [] := List.eq_nil_of_length_eq_zero (by omega)
  have h1 := h.is
  subst hr
  rw [← List.append_assoc] at h1
  have h2 := List.append_inj_right' h1 rfl
  simpa using h2.symm
theorem RS.more {s : ByteArray} {l : List (Int × Int)} {cur rest : List UInt8} {c : UInt8} {f i : Nat} (h : RS s l cur (c :: rest) f i) (hc : c ≠ 32) : RS s l (cur ++ [c]) rest f (i + 1) :=
  ⟨by rw [h.is]; simp, by rw [List.mem_append, not_or]; exact ⟨h.no, by simpa using hc.symm⟩, h.v, h.hf, by have := h.hi; simp; omega⟩
theorem RS.word {s : ByteArray} {l : List (Int × Int)} {cur rest : List UInt8} {f i : Nat} (h : RS s l cur (32 :: rest) f i) {x : Int × Int} (hx : validP x = true) (hw : wordT x = cur) : RS s (l ++ [x]) [] rest (i + 1) (i + 1) :=
  ⟨by rw [h.is, txt_snoc, hw]; simp, by simp, by rw [validL_snoc, h.v, hx]; rfl, by rw [txt_snoc, List.length_append, List.length_append, hw, ← h.hf, List.length_singleton]; have := h.hi; omega, by simp⟩
theorem RS.cut {s : ByteArray} {l : List (Int × Int)} {cur rest : List UInt8} {f i : Nat} (h : RS s l cur rest f i) (hi : i ≤ s.size) : (s.extract f i).data.toList = cur := by
  rw [Lib.extract_data]
  have h1 : (s.data.toList ++ [32]).take i = txt l ++ cur := by
    rw [h.is, ← List.append_assoc, List.take_append_of_le_length (by rw [List.length_append, ← h.hf, ← h.hi]; exact Nat.le_refl _), List.take_of_length_le (by rw [List.length_append, ← h.hf, ← h.hi]; exact Nat.le_refl _)]
  have h2 : (s.data.toList ++ [32]).take i = s.data.toList.take i := List.take_append_of_le_length (by simpa using hi)
  rw [h2] at h1
  have h3 : (s.data.toList.take i).drop f = cur := by rw [h1, h.hf, List.drop_left]
  rw [← h3, List.drop_take]
theorem RS.stuck {s : ByteArray} {l : List (Int × Int)} {cur rest : List UInt8} {f i : Nat} (h : RS s l cur (32 :: rest) f i) (hw : ∀ x : Int × Int, validP x = true → cur ≠ wordT x) : Stuck (cur ++ 32 :: rest) := stuck_word h.no hw
set_option maxRecDepth 100000 in
set_option maxHeartbeats 2000000 in
theorem rparse_c (s : ByteArray) (hs : s.size ≤ 100000) (w : World) : Calls Tryd.prog 19 #[.string s] w (ParseP s.data.toList w) := by
  obtain ⟨i38, hi, hz0, hz1, hz2⟩ := info_parts info38
  by_cases h0 : s.data.toList = []
  · have hs0 : s = ⟨#[]⟩ := bytes_inj h0
    subst hs0
    go_enter Tryd.func19, Tryd.ntmps19
    go_wp2_with fail
    refine bodyPost_ret (v := .tuple #[.slice (some ⟨w.heap.size, 0, none⟩) 0 0, .int .i64 0, .int .i64 0]) (by simp [results, Tryd.results19, go_sem]) rfl ?_
    exact ⟨some ⟨w.heap.size, 0, none⟩, 0, [], 0, 0, rfl, .inl ⟨rfl, rfl, rfl, rfl⟩, Prs.nil _, ba w _⟩
  · have e1 : s.toList.isEmpty = false := by rw [Lib.toList_data]; simpa using h0
    have hsl : s.data.toList.length = s.size := rfl
    have HH := Lib.hid (show ∀ (n er : Int) (l t : List (Int × Int)) rest, s.data.toList ++ [32] = txt t ++ rest → validL t = true → ((rest = [] ∧ l = t ∧ n = 0 ∧ er = 0) ∨ (rest ≠ [] ∧ Stuck rest ∧ l = [] ∧ n = (t.length : Int) + 1 ∧ er = 2)) → PRes s.data.toList l n er from fun n er l t rest h1 h2 h3 => .inr ⟨h0, t, rest, h1, h2, h3⟩)
    have HW0 := Lib.hid (own_empty w 38 2)
    clear h0
    go_enter Tryd.func19, Tryd.ntmps19
    go_wp2_with fail
    go_loopw [5, 6, 7, 8] (fun v f n i wr => ∃ (l : List (Int × Int)) (cur rest : List UInt8) (fk ik : Nat), RS s l cur rest fk ik ∧ f = .int .i64 fk ∧ i = .int .i64 ik ∧ n = .int .i64 ((l.length : Int) + 1) ∧ Below w.heap.size w wr ∧ wr.ownsRow w.heap.size 38 2 v l.length (flat l)) (fun _ _ _ i _ => s.size + 1 - (intOf i).toNat)
    case atStart => exact ⟨[], [], _, 0, 0, RS.start s, rfl, rfl, rfl, ba w _, HW0.out⟩
    case round =>
      obtain ⟨l, cur, rest, f, i, R, rfl, rfl, rfl, hbr, hown⟩ := hrel
      have HRS := Lib.hid R
      have HB := Lib.hid hbr
      have HO := Lib.hid hown
      have hlen := R.len
      have hfi : f ≤ i := by have := R.hi; omega
      have hll : (l.length : Int) ≤ 100001 := by
        have h1 := txt_len l
        have h2 := R.hf
        have h3 := R.hi
        omega
      cases rest with
      | nil =>
        have hgt : ¬ (i : Int) ≤ (s.size : Int) := by simp at hlen; omega
        obtain ⟨A, cap, rfl, -, C⟩ := Prs.of_own hown
        have HC := Lib.hid C
        have HD := Lib.hid R.done
        clear hown C hbr R hlen
        go_wp2_with fail
        refine bodyPost_ret (v := .tuple #[.slice A l.length cap, .int .i64 0, .int .i64 0]) (by simp [results, Tryd.results19, go_sem]) rfl ?_
        exact ⟨A, cap, l, 0, 0, rfl, HH.out _ _ _ l [] HD.out HRS.out.v (.inl ⟨rfl, rfl, rfl, rfl⟩), HC.out, HB.out⟩
      | cons c rest =>
        rw [List.length_cons] at hlen
        have hle : i ≤ s.size := by omega
        have hleI : (i : Int) ≤ (s.size : Int) := by omega
        by_cases hlt : i < s.size
        · have hltI : (i : Int) < (s.size : Int) := by omega
          have hat := R.at_ hlt
          by_cases hc : c = 32
          · subst hc
            have hc1 : ((s[i].toNat : Int) == 32) = true := by rw [hat]; rfl
            have hc2 : ((s[i].toNat : Int) != 32) = false := by simp [bne, hc1]
            clear hat
            have HCU := Lib.hid (R.cut hle)
            have hz : (s.extract f i).size ≤ 100000 := by simp; omega
            have HPC := Lib.hid (fun W => period_c (s.extract f i) hz W)
            rw [HCU.out] at HPC
            have HWD := Lib.hid (fun (x : Int × Int) hx hw => R.word (x := x) hx hw)
            have HST := Lib.hid (fun hw => R.stuck hw)
            have hfI : (f : Int) ≤ (i : Int) := by omega
            clear R hown hbr hz
            go_wp2_with fail
            refine (HPC.out _).mono ?_
            rintro e w2 ⟨a, b, ok, rfl, ha, hb, hyes, hno, hb2⟩
            have HB2 := Lib.hid (bt HB.out hb2)
            have HO2 := Lib.hid (owns_below HO.out hb2)
            have HYN := Lib.hid (And.intro hyes hno)
            clear hb2 hyes hno HPC
            cases ok
            · go_wp2_with fail
              refine bodyPost_ret (v := .tuple #[.slice none 0 0, .int .i64 ((l.length : Int) + 1), .int .i64 2]) (by simp [results, Tryd.results19, go_sem]) rfl ?_
              exact ⟨none, 0, [], (l.length : Int) + 1, 2, rfl, HH.out _ _ _ l _ HRS.out.is HRS.out.v (.inr ⟨by simp, HST.out (HYN.out.2 trivial), rfl, rfl, rfl⟩), Prs.nil _, HB2.out.alloc HB2.out.size _⟩
            · have hsz2 := HB2.out.size
              have hb3 := ba w2 (.cells #[.int .i64 a, .int .i64 b] 38)
              have hown := (owns_below HO2.out hb3).alloc (.cells #[.int .i64 a, .int .i64 b] 38)
              have hnew := news_period (w2.alloc (.cells #[.int .i64 a, .int .i64 b] 38)) a b 38
              rw [World.size_alloc] at hnew
              have h1c := one_period a b
              have HX := Lib.hid (HWD.out (a, b) (HYN.out.1 rfl).1 (HYN.out.1 rfl).2)
              clear hb3
              go_wp2_with (at_builtin; refine wpList_append_own _ rfl _ _ 22 rfl w.heap.size 38 i38 _ 2 16 Tryd.underlying22 hi hz0 hz1 hz2 rfl (by decide) _ _ _ rfl hown ⟨w2.heap.size + 1, 0, none⟩ 1 1 [.int .i64 a, .int .i64 b] rfl rfl hnew h1c (by unfold maxLen; omega) (by omega) (by simp; omega) ?_; intro v1 w9 hown1 hgrow1 hnil1)
              go_roundw
              case rel =>
                refine ⟨l ++ [(a, b)], [], rest, i + 1, i + 1, HX.out, by go_num, by go_num, by rw [List.length_append]; rfl, ?_, by rw [flat_append, List.length_append]; exact hown1⟩
                exact ((HB2.out.alloc hsz2 _).alloc (by simp; omega) _).grown hgrow1 (by simp; omega) (fun j hj => (hown.lt j hj).1)
              case measure => simp [intOf]; omega
          · have hc1 : ((s[i].toNat : Int) == 32) = false := by
              have : s[i].toNat ≠ 32 := fun e => hc (by rw [← hat]; exact UInt8.toNat_inj.1 e)
              simp; omega
            have hc2 : ((s[i].toNat : Int) != 32) = true := by simp [bne, hc1]
            have HM := Lib.hid (R.more hc)
            clear R hat hc hown hbr
            go_wp2_with fail
            go_roundw
            case rel => exact ⟨l, cur ++ [c], rest, f, i + 1, HM.out, rfl, by go_num, rfl, HB.out, HO.out⟩
            case measure => simp [intOf]; omega
        · have hltI : ¬ (i : Int) < (s.size : Int) := by omega
          obtain rfl := R.end_ hlt
          have HCU := Lib.hid (R.cut hle)
          have hz : (s.extract f i).size ≤ 100000 := by simp; omega
          have HPC := Lib.hid (fun W => period_c (s.extract f i) hz W)
          rw [HCU.out] at HPC
          have HWD := Lib.hid (fun (x : Int × Int) hx hw => R.word (x := x) hx hw)
          have HST := Lib.hid (fun hw => R.stuck hw)
          have hfI : (f : Int) ≤ (i : Int) := by omega
          clear R hown hbr hz
          go_wp2_with fail
          refine (HPC.out _).mono ?_
          rintro e w2 ⟨a, b, ok, rfl, ha, hb, hyes, hno, hb2⟩
          have HB2 := Lib.hid (bt HB.out hb2)
          have HO2 := Lib.hid (owns_below HO.out hb2)
          have HYN := Lib.hid (And.intro hyes hno)
          clear hb2 hyes hno HPC
          cases ok
          · go_wp2_with fail
            refine bodyPost_ret (v := .tuple #[.slice none 0 0, .int .i64 ((l.length : Int) + 1), .int .i64 2]) (by simp [results, Tryd.results19, go_sem]) rfl ?_
            exact ⟨none, 0, [], (l.length : Int) + 1, 2, rfl, HH.out _ _ _ l _ HRS.out.is HRS.out.v (.inr ⟨by simp, HST.out (HYN.out.2 trivial), rfl, rfl, rfl⟩), Prs.nil _, HB2.out.alloc HB2.out.size _⟩
          · have hsz2 := HB2.out.size
            have hb3 := ba w2 (.cells #[.int .i64 a, .int .i64 b] 38)
            have hown := (owns_below HO2.out hb3).alloc (.cells #[.int .i64 a, .int .i64 b] 38)
            have hnew := news_period (w2.alloc (.cells #[.int .i64 a, .int .i64 b] 38)) a b 38
            rw [World.size_alloc] at hnew
            have h1c := one_period a b
            have HX := Lib.hid (HWD.out (a, b) (HYN.out.1 rfl).1 (HYN.out.1 rfl).2)
            clear hb3
            go_wp2_with (at_builtin; refine wpList_append_own _ rfl _ _ 22 rfl w.heap.size 38 i38 _ 2 16 Tryd.underlying22 hi hz0 hz1 hz2 rfl (by decide) _ _ _ rfl hown ⟨w2.heap.size + 1, 0, none⟩ 1 1 [.int .i64 a, .int .i64 b] rfl rfl hnew h1c (by unfold maxLen; omega) (by omega) (by simp; omega) ?_; intro v1 w9 hown1 hgrow1 hnil1)
            go_roundw
            case rel =>
              refine ⟨l ++ [(a, b)], [], rest, i + 1, i + 1, HX.out, by go_num, by go_num, by rw [List.length_append]; rfl, ?_, by rw [flat_append, List.length_append]; exact hown1⟩
              exact ((HB2.out.alloc hsz2 _).alloc (by simp; omega) _).grown hgrow1 (by simp; omega) (fun j hj => (hown.lt j hj).1)
            case measure => simp [intOf]; omega
end Go.Proofs.YtabfjiapoafgaaaDoor
