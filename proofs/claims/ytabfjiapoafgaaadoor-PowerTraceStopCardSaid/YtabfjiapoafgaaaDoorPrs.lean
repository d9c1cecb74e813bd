/-
  Parse: the schedule of a text, or the number of its first invalid word.
-/
import Derived.Test.YtabfjiapoafgaaaDoorFmt
import Derived.Lib.ParseIntBTie
namespace Go.Proofs.YtabfjiapoafgaaaDoor
open Go.RowKit
set_option linter.unusedVariables false
attribute [local go_sem ↓] Go.wp_at_zero Go.wp_at_succ

/-- what a number's parse hands back -/
def NumV (l : List UInt8) (v : Int) : Prop := B64 v ∧ ∀ x, B64 x → l = Lib.itoa x → v = x
theorem parse64_itoa {n : Int} (h : B64 n) : Lib.parseIntB 64 (Lib.itoa n) = .ok n := Dec.parseIntB_itoa 64 n (by decide) (by decide) (by have := h.1; simp; omega) (by have := h.2; simp; omega)
theorem atoiSat_b (l : List UInt8) : B64 (Lib.atoiSat l) := by unfold Lib.atoiSat B64; split <;> decide
def NumP (l : List UInt8) (w : World) (e : Ending) (w' : World) : Prop := ∃ (v : Int) (ev : Value), e = .returned (.tuple #[.int .i64 v, ev]) ∧ NumV l v ∧ Below w.heap.size w w'
theorem atoi_c (s : ByteArray) (hs : s.size ≤ 1000000) (w : World) (hr : Ready w) : Calls Tryd.prog 42 #[.string s] w (NumP s.data.toList w) := by
  obtain ⟨ts, ps, hs1⟩ := hr.syn
  obtain ⟨tr, pr, hr1⟩ := hr.ran
  cases hp : Lib.atoiAll s.data.toList with
  | ok v =>
    refine (Tryd.strconv_Atoi_ok s (by omega) v hp w).mono ?_
    rintro e w1 ⟨rfl, hw⟩
    refine ⟨v, _, rfl, ⟨Lib.atoiAll_bounds hp, fun x hx he => ?_⟩, below_of_parse hw⟩
    rw [← Lib.parseIntB_64, he, parse64_itoa hx] at hp
    cases hp
    rfl
  | range =>
    refine (Tryd.strconv_Atoi_range_var s (by omega) hp tr pr w hr1).mono ?_
    rintro e w1 ⟨n, rfl, _, _, hb⟩
    refine ⟨_, _, rfl, ⟨atoiSat_b _, fun x hx he => ?_⟩, hb⟩
    rw [← Lib.parseIntB_64, he, parse64_itoa hx] at hp
    cases hp
  | _ =>
    refine (Tryd.strconv_Atoi_syntax_var s (by omega) hp ts ps w hs1).mono ?_
    rintro e w1 ⟨n, rfl, _, _, hb⟩
    refine ⟨_, _, rfl, ⟨⟨by decide, by decide⟩, fun x hx he => ?_⟩, hb⟩
    rw [← Lib.parseIntB_64, he, parse64_itoa hx] at hp
    cases hp
theorem pint_c (s : ByteArray) (hs : s.size ≤ 1000000) (w : World) (hr : Ready w) : Calls Tryd.prog 43 #[.string s, .int .i64 10, .int .i64 64] w (NumP s.data.toList w) := by
  by_cases h : ∃ v, Lib.parseIntB 64 s.data.toList = .ok v
  · obtain ⟨v, hv⟩ := h
    refine (parse64_ok s (by omega) v hv w).mono ?_
    rintro e w1 ⟨rfl, hb⟩
    refine ⟨v, _, rfl, ⟨?_, fun x hx he => ?_⟩, hb⟩
    · rw [Lib.parseIntB_64] at hv
      exact Lib.atoiAll_bounds hv
    · rw [he, parse64_itoa hx] at hv
      cases hv
      rfl
  · refine (parse64_bad s (by omega) (fun v hv => h ⟨v, hv⟩) w hr).mono ?_
    rintro e w1 ⟨n, _, h0, h1, rfl, hb⟩
    refine ⟨n, _, rfl, ⟨⟨h0, h1⟩, fun x hx he => ?_⟩, hb⟩
    exact absurd ⟨x, by rw [he]; exact parse64_itoa hx⟩ h
theorem validP_b {x : Int × Int} (h : validP x = true) : B64 x.1 ∧ B64 x.2 := by
  have := validP_iff.1 h
  exact ⟨⟨by omega, by omega⟩, ⟨by omega, by omega⟩⟩
/-- a word that is not read is none -/
theorem no_word {wd : List UInt8} {a b : Int} (ha : NumV (Lib.cut wd [64]).1 a) (hb : NumV (Lib.cut wd [64]).2.1 b) (h : validP (a, b) = true → wordT (a, b) ≠ wd) : ∀ x : Int × Int, validP x = true → wd ≠ wordT x := by
  rintro x hx rfl
  obtain ⟨b1, b2⟩ := validP_b hx
  have hc : Lib.cut (wordT x) [64] = (Lib.itoa x.1, Lib.itoa x.2, true) := cut_at (itoa_no64 _)
  rw [hc] at ha hb
  have e1 := ha.2 x.1 b1 rfl
  have e2 := hb.2 x.2 b2 rfl
  subst e1
  subst e2
  exact h hx rfl
theorem map_word_txt (l : List (Int × Int)) : (l.map wordT).flatMap (fun w => w ++ [32]) = txt l := by unfold txt; rw [List.flatMap_map]
theorem split_done {s : List UInt8} {l : List (Int × Int)} (h : l.map wordT = splitP s) : s ++ [32] = txt l ++ [] := by
  rw [List.append_nil, ← map_word_txt, h, splitP_flat]
theorem split_stuck {s : List UInt8} {l : List (Int × Int)} {k : Nat} (hk : k < (splitP s).length) (h : l.map wordT = (splitP s).take k) (hn : ∀ x : Int × Int, validP x = true → (splitP s)[k] ≠ wordT x) : ∃ rest, s ++ [32] = txt l ++ rest ∧ rest ≠ [] ∧ Stuck rest := by
  refine ⟨((splitP s).drop k).flatMap (fun w => w ++ [32]), ?_, ?_, ?_⟩
  · rw [← splitP_flat, ← map_word_txt, h, ← List.flatMap_append, List.take_append_drop]
  · rw [List.drop_eq_getElem_cons hk, List.flatMap_cons]; simp
  · rw [List.drop_eq_getElem_cons hk, List.flatMap_cons, List.append_assoc]
    exact stuck_word (splitP_no s _ (List.getElem_mem hk)) hn
/-- what Parse answers -/
def ParseP (s : List UInt8) (w : World) (e : Ending) (w' : World) : Prop := ∃ (A : Option Addr) (cap : Nat) (l : List (Int × Int)) (n er : Int), e = .returned (.tuple #[.slice A l.length cap, .int .i64 n, .int .i64 er]) ∧ PRes s l n er ∧ Prs w' A l ∧ Below w.heap.size w w'
/-- words in memory -/
structure WS (X : Nat) (ws : List ByteArray) (W : World) : Prop where
  lt : X < W.heap.size
  at_ : ∀ j b, ws[j]? = some b → W.cell? ⟨X, j, none⟩ = some (.string b)
theorem WS.next {X : Nat} {ws : List ByteArray} {W W' : World} (h : WS X ws W) (hb : Below W.heap.size W W') : WS X ws W' :=
  ⟨Nat.lt_of_lt_of_le h.lt hb.size, fun j b hj => ((bcell hb).1 _ _ h.lt).trans (h.at_ j b hj)⟩
theorem WS.new (w : World) (ws : List ByteArray) (t : TypeId) : WS w.heap.size ws (w.alloc (.cells (ws.map Value.string).toArray t)) :=
  ⟨by simp, fun j b hj => (World.cell?_alloc_at _ _ _ _ rfl).trans (by simp [hj])⟩
def toB (w : List UInt8) : ByteArray := ⟨w.toArray⟩
theorem splitB_c (s : ByteArray) (hs : s.size ≤ 1000000) (w : World) (hr : Ready w) : Calls Tryd.prog 40 #[.string s, .string ⟨#[32]⟩] w fun e w' => e = .returned (.slice (some ⟨w.heap.size, 0, none⟩) (splitP s.data.toList).length (splitP s.data.toList).length) ∧ WS w.heap.size ((splitP s.data.toList).map toB) w' ∧ Below w.heap.size w w' := by
  refine (split_c s ⟨#[32]⟩ (by omega) (by decide) w hr).mono ?_
  rintro e w1 ⟨rfl, rfl⟩
  have h1 : Lib.splitB ⟨#[32]⟩ 0 (Lib.countB s ⟨#[32]⟩) s = (splitP s.data.toList).map toB := pieces_split s
  have h2 := pieces_len s ⟨#[32]⟩ (by decide)
  have h3 : Lib.countB s ⟨#[32]⟩ + 1 = (splitP s.data.toList).length := by
    rw [← h2]
    show (Lib.splitB _ _ _ _).length = _
    rw [h1, List.length_map]
  rw [h1, h3]
  exact ⟨rfl, WS.new w _ _, ba w _⟩
theorem splitP_len (s : List UInt8) : (splitP s).length ≤ s.length + 1 := by
  have h := congrArg List.length (splitP_flat s)
  have h2 : ∀ ws : List (List UInt8), ws.length ≤ (ws.flatMap (fun w => w ++ [32])).length := by
    intro ws
    induction ws with
    | nil => simp
    | cons w ws ih => rw [List.flatMap_cons, List.length_cons, List.length_append, List.length_append, List.length_singleton]; omega
  have := h2 (splitP s)
  rw [h, List.length_append, List.length_singleton] at this
  exact this
theorem splitP_piece {s w : List UInt8} (h : w ∈ splitP s) : w.length ≤ s.length := by
  have h1 := congrArg List.length (splitP_flat s)
  rw [List.length_append, List.length_singleton] at h1
  have h2 : ∀ ws : List (List UInt8), w ∈ ws → w.length + 1 ≤ (ws.flatMap (fun w => w ++ [32])).length := by
    intro ws
    induction ws with
    | nil => intro h; cases h
    | cons y ws ih =>
      intro h
      rw [List.flatMap_cons, List.length_append, List.length_append, List.length_singleton]
      rcases List.mem_cons.1 h with rfl | h
      · omega
      · have := ih h; omega
  have := h2 _ h
  omega
theorem cut_le (s sep : List UInt8) : (Lib.cut s sep).1.length ≤ s.length ∧ (Lib.cut s sep).2.1.length ≤ s.length := by
  unfold Lib.cut
  split
  · simp; omega
  · simp
set_option maxRecDepth 100000 in
set_option maxHeartbeats 2000000 in
theorem parse_c (s : ByteArray) (hs : s.size ≤ 100000) (w : World) (hr : Ready w) : Calls Tryd.prog 17 #[.string s] w (ParseP s.data.toList w) := by
  obtain ⟨i38, hi, hz0, hz1, hz2⟩ := info_parts info38
  by_cases h0 : s.data.toList = []
  · have hs0 : s = ⟨#[]⟩ := bytes_inj h0
    subst hs0
    go_enter Tryd.func17, Tryd.ntmps17
    go_wp2_with fail
    refine bodyPost_ret (v := .tuple #[.slice none 0 0, .int .i64 0, .int .i64 0]) (by simp [results, Tryd.results17, go_sem]) rfl ?_
    exact ⟨none, 0, [], 0, 0, rfl, .inl ⟨rfl, rfl, rfl, rfl⟩, Prs.nil _, Below.refl _ _⟩
  · have e1 : s.toList.isEmpty = false := by rw [Lib.toList_data]; simpa using h0
    have HSC := Lib.hid (splitB_c s (by omega) w hr)
    have HR := Lib.hid hr
    have HL := Lib.hid (splitP_len s.data.toList)
    have HP := Lib.hid (fun (x : List UInt8) (hx : x ∈ splitP s.data.toList) => splitP_piece hx)
    have hsl : s.data.toList.length = s.size := rfl
    have HH := Lib.hid (show ∀ (n er : Int) (l t : List (Int × Int)) rest, s.data.toList ++ [32] = txt t ++ rest → validL t = true → ((rest = [] ∧ l = t ∧ n = 0 ∧ er = 0) ∨ (rest ≠ [] ∧ Stuck rest ∧ l = [] ∧ n = (t.length : Int) + 1 ∧ er = 2)) → PRes s.data.toList l n er from fun n er l t rest h1 h2 h3 => .inr ⟨h0, t, rest, h1, h2, h3⟩)
    clear hr h0
    go_enter Tryd.func17, Tryd.ntmps17
    go_wp2_with fail
    refine HSC.out.mono ?_
    rintro e w1 ⟨rfl, S1, hb1⟩
    have HS1 := Lib.hid S1
    have HB1 := Lib.hid hb1
    have hnn : (splitP s.data.toList).length ≤ 100001 := by have := HL.out; omega
    obtain ⟨ws, hws⟩ : ∃ ws, splitP s.data.toList = ws := ⟨_, rfl⟩
    have HWS := Lib.hid hws
    have hnI : (ws.length : Int) ≤ 100001 := by rw [← hws]; omega
    have hgx : w.heap.size < w1.heap.size := S1.lt
    rw [hws] at HP HS1 hnn
    clear hb1 S1
    rw [hws]
    clear hws HSC HL
    go_wp2_with fail
    go_loopw [5, 21] (fun v i wr => ∃ (k : Nat) (l : List (Int × Int)), k ≤ ws.length ∧ i = .int .i64 k ∧ l.length = k ∧ validL l = true ∧ l.map wordT = ws.take k ∧ Below w.heap.size w wr ∧ WS w.heap.size (ws.map toB) wr ∧ wr.ownsRow (w.heap.size + 1) 38 2 v k (flat l)) (fun _ i _ => ws.length - (intOf i).toNat)
    case atStart => exact ⟨0, [], by omega, rfl, rfl, rfl, rfl, HB1.out, HS1.out, World.ownsRow_nil _ _ _ _⟩
    case round =>
      obtain ⟨k, l, hk, rfl, hlk, hv, hm, hbr, S, hown⟩ := hrel
      have HB := Lib.hid hbr
      have HO := Lib.hid hown
      have HS := Lib.hid S
      have HV := Lib.hid hv
      have HM := Lib.hid hm
      have HLK := Lib.hid hlk
      clear hv hm hlk
      by_cases hlt : k < ws.length
      · have c0 := S.at_ k (toB ws[k]) (by rw [List.getElem?_map, List.getElem?_eq_getElem hlt]; rfl)
        have HW := Lib.hid (HP.out ws[k] (List.getElem_mem hlt))
        have HST := Lib.hid (fun (h : k < (splitP s.data.toList).length) (hm : l.map wordT = (splitP s.data.toList).take k) hn => split_stuck h hm hn)
        rw [HWS.out] at HST
        have HSN := Lib.hid (fun (x : Int × Int) (hx : wordT x = ws[k]) => show (l ++ [x]).map wordT = ws.take (k + 1) from by rw [List.map_append, HM.out, List.take_succ_eq_append_getElem hlt, List.map_cons, List.map_nil, hx])
        obtain ⟨wd, hwd⟩ : ∃ wd, ws[k] = wd := ⟨_, rfl⟩
        rw [hwd] at c0 HW HSN
        have HST2 := Lib.hid (fun (hn : ∀ x : Int × Int, validP x = true → wd ≠ wordT x) => HST.out hlt HM.out (by
          intro x hx; simp only [hwd]; exact hn x hx))
        clear HST hwd hbr hown S
        obtain ⟨b, hb⟩ : ∃ b, toB wd = b := ⟨_, rfl⟩
        rw [hb] at c0
        have HBD := Lib.hid (show b.data.toList = wd from by rw [← hb]; rfl)
        have hbs : b.size ≤ 100000 := by
          have h1 : b.size = wd.length := by rw [← hb]; rfl
          have := HW.out
          omega
        have HNW := Lib.hid (fun (x : Int × Int) => show (⟨(wordT x).toArray⟩ : ByteArray) = b ↔ wordT x = wd from by
          rw [← hb]
          constructor
          · intro h; exact congrArg (fun b : ByteArray => b.data.toList) h
          · intro h; rw [h]; rfl)
        clear hb
        go_wp2_with fail
        have HR1 := Lib.hid (HR.out.below HB.out)
        refine (cut_c b ⟨#[64]⟩ (by omega) _ HR1.out).mono ?_
        rintro e w2 ⟨rfl, hb2⟩
        have hcl := cut_le b.data.toList (⟨#[64]⟩ : ByteArray).data.toList
        have HR2 := Lib.hid (HR1.out.below hb2)
        have HB2 := Lib.hid (bt HB.out hb2)
        have HO2 := Lib.hid (owns_below HO.out hb2)
        have HS2 := Lib.hid (HS.out.next hb2)
        have HCC := Lib.hid (show ∀ a b2 : Int, NumV (Lib.cut b.data.toList (⟨#[64]⟩ : ByteArray).data.toList).1 a → NumV (Lib.cut b.data.toList (⟨#[64]⟩ : ByteArray).data.toList).2.1 b2 → (validP (a, b2) = true → wordT (a, b2) ≠ wd) → ∀ x : Int × Int, validP x = true → wd ≠ wordT x from fun a b2 ha hb2 => by
          rw [HBD.out] at ha hb2
          exact no_word ha hb2)
        generalize Lib.cut b.data.toList (⟨#[64]⟩ : ByteArray).data.toList = cu at *
        obtain ⟨p, q, f⟩ := cu
        simp only at hcl HCC ⊢
        have hbl : b.data.toList.length = b.size := rfl
        have HA1 := Lib.hid (fun W h => atoi_c ⟨p.toArray⟩ (show p.length ≤ _ by omega) W h)
        have HA2 := Lib.hid (fun W h => pint_c ⟨q.toArray⟩ (show q.length ≤ _ by omega) W h)
        clear c0 hb2 hcl HB HO HS HR1
        generalize hp1 : (⟨p.toArray⟩ : ByteArray) = p1 at *
        generalize hq1 : (⟨q.toArray⟩ : ByteArray) = q1 at *
        have HPQ := Lib.hid (And.intro (show p1.data.toList = p by rw [← hp1]) (show q1.data.toList = q by rw [← hq1]))
        clear hp1 hq1
        go_wp2_with fail
        refine (HA1.out _ HR2.out).mono ?_
        rintro e w3 ⟨av, ae, rfl, hna, hb3⟩
        rw [HPQ.out.1] at hna
        have HNA := Lib.hid hna
        have hav := hna.1
        clear hna
        go_wp2_with fail
        refine (HA2.out _ (HR2.out.below hb3)).mono ?_
        rintro e w4 ⟨bv, be, rfl, hnb, hb4⟩
        rw [HPQ.out.2] at hnb
        have HNB := Lib.hid hnb
        have hbv := hnb.1
        have HCN := Lib.hid (HCC.out av bv HNA.out HNB.out)
        have hb34 := bt hb3 hb4
        have HB4 := Lib.hid (bt HB2.out hb34)
        have HR4 := Lib.hid (HR2.out.below hb34)
        have HO4 := Lib.hid (owns_below HO2.out hb34)
        have HS4 := Lib.hid (HS2.out.next hb34)
        clear hnb hb3 hb4 hb34 HB2 HR2 HO2 HS2 HA1 HA2 HCC HNA HNB HPQ
        go_wp2_with fail
        have hb5 := ba w4 (.cells #[.int .i64 av, .int .i64 bv] 38)
        have x5 := new_period w4 av bv 38
        have HB5 := Lib.hid (bt HB4.out hb5)
        have HR5 := Lib.hid (HR4.out.below hb5)
        have HO5 := Lib.hid (owns_below HO4.out hb5)
        have HS5 := Lib.hid (HS4.out.next hb5)
        have hl5 : w4.heap.size < (w4.alloc (.cells #[.int .i64 av, .int .i64 bv] 38)).heap.size := by simp
        refine (valid_c av bv _).mono ?_
        rintro e w6 ⟨rfl, hb6⟩
        have HB6 := Lib.hid (bt HB5.out hb6)
        have HR6 := Lib.hid (HR5.out.below hb6)
        have HO6 := Lib.hid (owns_below HO5.out hb6)
        have HS6 := Lib.hid (HS5.out.next hb6)
        have x60 := ((bcell hb6).1 w4.heap.size 0 hl5).trans x5.1
        have x61 := ((bcell hb6).1 w4.heap.size 1 hl5).trans x5.2
        have hl6 : w4.heap.size < w6.heap.size := Nat.lt_of_lt_of_le hl5 hb6.size
        clear hb5 hb6 x5 hl5 HB4 HR4 HO4 HS4 HB5 HR5 HO5 HS5
        cases hvp : validP (av, bv)
        · have HN := Lib.hid (HCN.out (fun h => by rw [hvp] at h; cases h))
          have HE := Lib.hid (HST2.out HN.out)
          clear hvp
          go_wp2_with fail
          obtain ⟨rest, g1, g2, g3⟩ := HE.out
          refine bodyPost_ret (v := .tuple #[.slice none 0 0, .int .i64 ((k : Int) + 1), .int .i64 2]) (by simp [results, Tryd.results17, go_sem]) rfl ?_
          exact ⟨none, 0, [], (k : Int) + 1, 2, rfl, HH.out _ _ _ l rest g1 HV.out (.inr ⟨g2, g3, rfl, by rw [HLK.out], rfl⟩), Prs.nil _, HB6.out⟩
          
        · have HVP := Lib.hid hvp
          clear hvp
          go_wp2_with fail
          refine (word_c av bv hav hbv _ HR6.out).mono ?_
          rintro e w7 ⟨rfl, hb7⟩
          have HB7 := Lib.hid (bt HB6.out hb7)
          have HO7 := Lib.hid (owns_below HO6.out hb7)
          have HS7 := Lib.hid (HS6.out.next hb7)
          have x70 := ((bcell hb7).1 w4.heap.size 0 hl6).trans x60
          have x71 := ((bcell hb7).1 w4.heap.size 1 hl6).trans x61
          have hl7 : w4.heap.size < w7.heap.size := Nat.lt_of_lt_of_le hl6 hb7.size
          clear hb7 x60 x61 hl6 HB6 HR6 HO6 HS6
          by_cases hww : wordT (av, bv) = wd
          · have hwb : (⟨(wordT (av, bv)).toArray⟩ : ByteArray) = b := (HNW.out _).2 hww
            have HWW := Lib.hid hww
            rw [hwb]
            clear hww hwb
            have hown := (HO7.out).alloc (.cells #[.int .i64 av, .int .i64 bv] 38)
            have hnew := news_period w7 av bv 38
            have h1c := one_period av bv
            have hsz7 := HB7.out.size
            have hgx7 : w.heap.size < w7.heap.size := HS7.out.lt
            have HS8 := Lib.hid (HS7.out.next (ba w7 (.cells #[.int .i64 av, .int .i64 bv] 38)))
            have hne : u5.ownBlock ≠ some w.heap.size := fun e => by have := (HO7.out.lt _ e).1; omega
            go_wp2_with (at_builtin; refine wpList_append_own _ rfl _ _ 22 rfl (w.heap.size + 1) 38 i38 _ 2 16 Tryd.underlying22 hi hz0 hz1 hz2 rfl (by decide) _ _ _ rfl hown ⟨w7.heap.size, 0, none⟩ 1 1 [.int .i64 av, .int .i64 bv] rfl rfl hnew h1c (by unfold maxLen; omega) (by omega) (by simp; omega) ?_; intro v1 w9 hown1 hgrow1 hnil1)
            go_roundw
            case rel =>
              refine ⟨k + 1, l ++ [(av, bv)], by omega, by go_num, by rw [List.length_append, HLK.out]; rfl, by rw [validL_snoc, HV.out, HVP.out]; rfl, HSN.out _ HWW.out, ?_, ?_, ?_⟩
              · exact (HB7.out.alloc hsz7 _).grown hgrow1 (by simp; omega) (fun j hj => by have := (hown.lt j hj).1; omega)
              · refine ⟨by have := hgrow1.size; simp at this; omega, fun j b hj => ?_⟩
                exact (hgrow1.cell_far ⟨w.heap.size, j, none⟩ (by simp; omega) (Ne.symm hne)).trans (HS8.out.at_ j b hj)
              · rw [flat_append]; exact hown1
            case measure => simp [intOf]; omega
          · have HN := Lib.hid (HCN.out (fun _ => hww))
            have HE := Lib.hid (HST2.out HN.out)
            have hwb : ¬ (⟨(wordT (av, bv)).toArray⟩ : ByteArray) = b := fun h => hww ((HNW.out _).1 h)
            have hwl : ((⟨(wordT (av, bv)).toArray⟩ : ByteArray).toList == b.toList) = false := by
              rw [Lib.toList_data, Lib.toList_data, HBD.out]
              simpa using hww
            generalize (⟨(wordT (av, bv)).toArray⟩ : ByteArray) = xb at *
            clear hww
            go_wp2_with fail
            obtain ⟨rest, g1, g2, g3⟩ := HE.out
            refine bodyPost_ret (v := .tuple #[.slice none 0 0, .int .i64 ((k : Int) + 1), .int .i64 2]) (by simp [results, Tryd.results17, go_sem]) rfl ?_
            exact ⟨none, 0, [], (k : Int) + 1, 2, rfl, HH.out _ _ _ l rest g1 HV.out (.inr ⟨g2, g3, rfl, by rw [HLK.out], rfl⟩), Prs.nil _, HB7.out⟩
            
      · obtain rfl : k = ws.length := by omega
        obtain ⟨A, cap, rfl, -, C⟩ := Prs.of_own hown
        have HC := Lib.hid C
        have HD := Lib.hid (show s.data.toList ++ [32] = txt l ++ [] from split_done (by rw [HM.out, HWS.out, List.take_length]))
        clear hown C
        go_wp2_with fail
        refine bodyPost_ret (v := .tuple #[.slice A l.length cap, .int .i64 0, .int .i64 0]) (by simp [results, Tryd.results17, go_sem]) rfl ?_
        exact ⟨A, cap, l, 0, 0, rfl, HH.out _ _ _ l [] HD.out HV.out (.inl ⟨rfl, rfl, rfl, rfl⟩), HC.out, HB.out⟩
end Go.Proofs.YtabfjiapoafgaaaDoor
