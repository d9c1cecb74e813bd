/-
  trickleref11.Parse: the instruction of a text.
-/
import Derived.Test.YtpgjmegecfaijaaDoorRVal
namespace Go.Proofs.YtpgjmegecfaijaaDoor
open Go.RowKit

/-- how far a list goes without a byte -/
theorem tw_stop {l : List UInt8} {c : UInt8} : ∀ {k : Nat}, c ∉ l.take k → (k = l.length ∨ l[k]? = some c) → l.take k = l.takeWhile (· != c) := by
  induction l with
  | nil => intro k _ _; simp
  | cons x l ih =>
    intro k h1 h2
    cases k with
    | zero =>
      rcases h2 with h2 | h2
      · simp at h2
      · simp at h2; subst h2; simp
    | succ k =>
      have hx : x ≠ c := fun e => h1 (by simp [e])
      have h1' : c ∉ l.take k := fun e => h1 (by simp [e])
      have h2' : k = l.length ∨ l[k]? = some c := by simpa using h2
      rw [List.take_succ_cons, List.takeWhile_cons, ih h1' h2']
      simp [hx]
theorem tw_app {n r : List UInt8} {c : UInt8} (h : c ∉ n) (hr : r = [] ∨ ∃ t, r = c :: t) : (n ++ r).takeWhile (· != c) = n := by
  induction n with
  | nil =>
    rcases hr with rfl | ⟨t, rfl⟩ <;> simp
  | cons x n ih =>
    have hx : x ≠ c := fun e => h (by simp [e])
    rw [List.cons_append, List.takeWhile_cons, ih (fun e => h (by simp [e]))]
    simp [hx]
theorem txt_word {s : ByteArray} {op a b c m : Int} (h : Txt s op a b c m) : s.data.toList.takeWhile (· != 32) = (nam op.toNat).data.toList := by
  rw [← h.2, fmtS_list]
  refine tw_app (nam_32 _) ?_
  split
  · exact .inl rfl
  · exact .inr ⟨_, rfl⟩
/-- the rest of a text from an operand on -/
def restT (op a b c m : Int) (k : Nat) : List UInt8 := Lib.join (((opTs op a b c m).drop k).map (·.data.toList)) [44, 32]
theorem restT_cons {op a b c m : Int} {k : Nat} (hk : k < (shp op.toNat).length) : ∃ r, (r = [] ∨ ∃ t, r = 44 :: t) ∧ restT op a b c m k = (opT a b c m (shp op.toNat)[k]).data.toList ++ r ∧ (k + 1 < (shp op.toNat).length → r = [44, 32] ++ restT op a b c m (k + 1)) ∧ (¬ k + 1 < (shp op.toNat).length → r = []) := by
  have hl := opTs_len op a b c m
  have hk2 : k < (opTs op a b c m).length := by omega
  have hg : (opTs op a b c m)[k] = opT a b c m (shp op.toNat)[k] := by
    have h : (opTs op a b c m)[k]? = some (opT a b c m (shp op.toNat)[k]) := by unfold opTs; rw [List.getElem?_map, List.getElem?_eq_getElem hk]; rfl
    rw [List.getElem?_eq_getElem hk2] at h
    exact Option.some.inj h
  unfold restT
  rw [List.drop_eq_getElem_cons hk2, hg, List.map_cons]
  by_cases h1 : k + 1 < (shp op.toNat).length
  · have hk3 : k + 1 < (opTs op a b c m).length := by omega
    rw [List.drop_eq_getElem_cons hk3, List.map_cons]
    refine ⟨_, .inr ⟨_, rfl⟩, join_two _ _ _ _, fun _ => rfl, fun h => absurd h1 h⟩
  · have : (opTs op a b c m).drop (k + 1) = [] := List.drop_of_length_le (by omega)
    rw [this]
    exact ⟨[], .inl rfl, by rw [List.map_nil, join_one, List.append_nil], fun h => absurd h h1, fun _ => rfl⟩
theorem txt_rest {s : ByteArray} {op a b c m : Int} (h : Txt s op a b c m) (hne : 0 < (shp op.toNat).length) : (nam op.toNat).data.toList.length + 1 ≤ s.size ∧ s.data.toList.drop ((nam op.toNat).data.toList.length + 1) = restT op a b c m 0 := by
  have hs : ¬ shp op.toNat = [] := fun e => by rw [e] at hne; simp at hne
  have e := fmtS_list op a b c m
  rw [h.2, if_neg hs] at e
  constructor
  · have : s.data.toList.length = s.size := by simp
    rw [← this, e]; simp
  · rw [e, ← List.append_assoc]
    unfold restT
    rw [List.drop_zero]
    have : ((nam op.toNat).data.toList ++ [32]).length = (nam op.toNat).data.toList.length + 1 := by simp
    rw [← this, List.drop_left]
theorem rfmt_any (op a b c m : Int) (hm : -32768 ≤ m ∧ m ≤ 32767) (w : World) : Calls Tryd.prog 32 #[code op a b c m] w fun e w' => e = .returned (.string (if vld op a b c m = true then fmtS op a b c m else ⟨#[]⟩)) ∧ Below w.heap.size w w' := by
  cases hv : vld op a b c m
  · exact (rfmt_no op a b c m hm hv w).mono fun _ _ ⟨he, hb⟩ => ⟨by rw [he]; rfl, hb⟩
  · exact (rfmt_yes op a b c m hm hv w).mono fun _ _ ⟨he, hb⟩ => ⟨by rw [he]; rfl, hb⟩
/-- the state of the reference's Parse: its two blocks -/
structure RS (w0 : World) (op a b c m : Int) (w : World) : Prop where
  below : Below w0.heap.size w0 w
  res : Cod w0.heap.size 0 0 0 0 0 w
  box : Cod (w0.heap.size + 1) op a b c m w
theorem RS.next {w0 w w1 : World} {op a b c m : Int} (h : RS w0 op a b c m w) (hb : Below w.heap.size w w1) : RS w0 op a b c m w1 := ⟨bt h.below hb, h.res.next hb, h.box.next hb⟩
theorem RS.setOp {w0 w : World} {op a b c m : Int} (h : RS w0 op a b c m w) (n : Int) : RS w0 n a b c m (w.setCell ⟨w0.heap.size + 1, 0, none⟩ (.int .i64 n)) := by
  refine ⟨h.below.setCell (by simp) _, h.res.off _ _ _ (by omega), ?_⟩
  obtain ⟨lt, c0, c1, c2, c3, c4, f0, f1, f2, f3, f4⟩ := h.box
  have oth : ∀ (j : Nat), 0 ≠ j → (w.setCell ⟨w0.heap.size + 1, 0, none⟩ (.int .i64 n)).cell? ⟨w0.heap.size + 1, j, none⟩ = w.cell? ⟨w0.heap.size + 1, j, none⟩ := fun j hij => World.cell?_setCell_other _ _ _ _ (by intro e; simp at e <;> omega)
  exact ⟨by simpa using lt, World.cell?_setCell_same _ _ _ c0, (oth 1 (by decide)).trans c1, (oth 2 (by decide)).trans c2, (oth 3 (by decide)).trans c3, (oth 4 (by decide)).trans c4, by simpa using f0, by simpa using f1, by simpa using f2, by simpa using f3, by simpa using f4⟩
theorem RS.put {w0 w : World} {op a b c m : Int} (h : RS w0 op a b c m w) (o n : Int) (ho : o = 0 ∨ o = 1 ∨ o = 2 ∨ o = 3) : RS w0 op (if o = 0 then n else a) (if o = 1 then n else b) (if o = 2 then n else c) (if o = 3 then IntKind.i16.wrap n else m) (setW (w0.heap.size + 1) o n w) :=
  ⟨setW_below h.below (by omega), h.res.offW _ _ (by omega), h.box.written n ho⟩
/-- which operation has been found -/
def Fop (wd : ByteArray) (j : Nat) (o : Int) : Prop := (o = 0 ∧ ∀ i : Nat, 1 ≤ i → i < j → nam i ≠ wd) ∨ (1 ≤ o ∧ o < j ∧ nam o.toNat = wd)
theorem Fop.step {wd : ByteArray} {j : Nat} {o : Int} (h : Fop wd j o) (hn : nam j ≠ wd) : Fop wd (j + 1) o := by
  rcases h with ⟨h1, h2⟩ | ⟨h1, h2, h3⟩
  · refine .inl ⟨h1, fun i hi hj => ?_⟩
    by_cases e : i = j
    · subst e; exact hn
    · exact h2 i hi (by omega)
  · exact .inr ⟨h1, by omega, h3⟩
theorem Fop.hit {wd : ByteArray} {j : Nat} (h1 : 1 ≤ j) (hn : nam j = wd) : Fop wd (j + 1) (j : Int) := .inr ⟨by omega, by omega, by simpa using hn⟩
/-- the ghost of the reference's loop -/
def GotR (s : ByteArray) (op : Int) (k at_ : Nat) (a' b' c' m' : Int) : Prop := ∀ a b c m : Int, -32768 ≤ m → m ≤ 32767 → Txt s op a b c m → (a' = kept ((shp op.toNat).take k) 0 a ∧ b' = kept ((shp op.toNat).take k) 1 b ∧ c' = kept ((shp op.toNat).take k) 2 c ∧ m' = kept ((shp op.toNat).take k) 3 m) ∧ (k < (shp op.toNat).length → at_ ≤ s.size ∧ s.data.toList.drop at_ = restT op a b c m k)
theorem gotR_step {s : ByteArray} {op a' b' c' m' : Int} {q at_ e : Nat} (hq : q < (shp op.toNat).length) (hg : GotR s op q at_ a' b' c' m') (hat : at_ ≤ e) (he : e ≤ s.size) {n : Int} (hseg : (s.data.toList.drop at_).take (e - at_) = (s.data.toList.drop at_).takeWhile (· != 44)) (hn : n = valN ((s.data.toList.drop at_).take (e - at_))) :
    GotR s op (q + 1) (e + 2) (if (shp op.toNat)[q] = 0 then n else a') (if (shp op.toNat)[q] = 1 then n else b') (if (shp op.toNat)[q] = 2 then n else c') (if (shp op.toNat)[q] = 3 then IntKind.i16.wrap n else m') := by
  intro a b c m m0 m1 h
  obtain ⟨⟨e1, e2, e3, e4⟩, h2⟩ := hg a b c m m0 m1 h
  obtain ⟨h3, h4⟩ := h2 hq
  obtain ⟨-, ha, hb, hc⟩ := vld_bounds h.1
  obtain ⟨r, hr, hrest, hr1, hr2⟩ := restT_cons (a := a) (b := b) (c := c) (m := m) hq
  have hin := shp_in op.toNat _ (List.getElem_mem hq)
  have hsl : s.data.toList.length = s.size := by simp
  rw [h4, hrest, tw_app (opT_44 a b c m _) hr] at hseg
  have hlen : e - at_ = (opT a b c m (shp op.toNat)[q]).data.toList.length := by
    have h5 := congrArg List.length hseg
    have h6 := congrArg List.length h4
    rw [hrest, List.length_drop, List.length_append] at h6
    rw [List.length_take, List.length_append] at h5
    omega
  have hn2 : n = fieldOf a b c m (shp op.toNat)[q] := by
    rw [hn, h4, hrest, hseg]
    exact valN_opT hin ⟨m0, m1⟩ ha hb hc
  constructor
  · have hb1 : -32768 ≤ n ∧ n ≤ 32767 := by
      rw [hn2]
      generalize (shp op.toNat)[q] = x at *
      rcases hin with rfl | rfl | rfl | rfl <;> simp [fieldOf] <;> omega
    have hw : IntKind.i16.wrap n = n := by rw [wrap_i16]; omega
    rw [hw, kept_take hq, kept_take hq, kept_take hq, kept_take hq]
    generalize (shp op.toNat)[q] = x at *
    subst e1 e2 e3 e4 hn2
    rcases hin with rfl | rfl | rfl | rfl <;> simp [fieldOf]
  · intro hq1
    have hr3 := hr1 hq1
    have hd : s.data.toList.drop (e + 2) = restT op a b c m (q + 1) := by
      have h7 : e + 2 = at_ + ((opT a b c m (shp op.toNat)[q]).data.toList ++ [44, 32]).length := by simp at hlen ⊢; omega
      rw [h7, ← List.drop_drop, h4, hrest, hr3, ← List.append_assoc, List.drop_left]
    refine ⟨?_, hd⟩
    have h6 := congrArg List.length h4
    rw [hrest, hr3, List.length_drop, List.length_append, List.length_append] at h6
    simp at h6 hlen
    omega
theorem extract_list (s : ByteArray) (a b : Nat) : (s.extract a b).data.toList = (s.data.toList.drop a).take (b - a) := by rw [← ByteArray.toList_eq]; exact Lib.extract_toList s a b
set_option maxRecDepth 100000 in
set_option maxHeartbeats 4000000 in
theorem rparse_c (s : ByteArray) (hs : s.size ≤ 1000) (w : World) : Calls Tryd.prog 34 #[.string s] w (Parsed s w) := by
  have hs' : (s.size : Int) ≤ 1000 := by omega
  go_enter Tryd.func34, Tryd.ntmps34
  go_wp2_with fail
  have R0 := Cod.new (w := w) 0 0 0 0 0 24
  go_loop [4] (fun i => ∃ k : Nat, k ≤ s.size ∧ i = .int .i64 k ∧ (32 : UInt8) ∉ s.data.toList.take k) (fun i => s.size - (intOf i).toNat)
  case atStart => exact ⟨0, by omega, rfl, by simp⟩
  case round =>
    obtain ⟨k, hk, rfl, hno⟩ := hrel
    have HN := Lib.hid hno
    clear hno
    have hat : ∀ h : k < s.size, s.data.toList[k]? = some s[k] := fun h => by
      have e : s[k] = s.data.toList[k]'(by simpa using h) := rfl
      rw [e, List.getElem?_eq_getElem]
    have HAT := Lib.hid hat
    clear hat
    by_cases hgo : ∃ h : k < s.size, s[k] ≠ 32
    · obtain ⟨hlt, hne⟩ := hgo
      have hb : ((s[k].toNat : Int) == 32) = false := by
        rw [beq_eq_false_iff_ne]
        intro e
        exact hne (by apply UInt8.toNat_inj.1; have e2 : (32 : UInt8).toNat = 32 := rfl; omega)
      have HN2 := Lib.hid (show (32 : UInt8) ∉ s.data.toList.take (k + 1) from by
        rw [take_snoc s k hlt, List.mem_append, List.mem_singleton]
        exact fun h => h.elim HN.out (fun e => hne e.symm))
      clear hne
      go_wp2_with fail
      go_round
      case rel => exact ⟨k + 1, by omega, by go_num, HN2.out⟩
      case measure => simp [intOf]; omega
    · have hstop : k = s.data.toList.length ∨ s.data.toList[k]? = some 32 := by
        by_cases hlt : k < s.size
        · right
          rw [HAT.out hlt]
          by_cases e : s[k] = 32
          · rw [e]
          · exact absurd ⟨hlt, e⟩ hgo
        · left
          have e : s.data.toList.length = s.size := by simp
          omega
      have HW := Lib.hid (tw_stop HN.out hstop)
      have hk' : (k : Int) ≤ (s.size : Int) := by omega
      have hk0 : (0 : Int) ≤ (k : Int) := by omega
      have hcase : (¬ (k : Int) < (s.size : Int)) ∨ ∃ h : k < s.size, ((s[k].toNat : Int) == 32) = true := by
        by_cases hlt : k < s.size
        · right
          refine ⟨hlt, ?_⟩
          by_cases e : s[k] = 32
          · rw [e]; rfl
          · exact absurd ⟨hlt, e⟩ hgo
        · left; omega
      clear hgo hstop HAT HN
      have hwl : (s.extract 0 k).data.toList = s.data.toList.takeWhile (· != 32) := by rw [Lib.extract_from_zero]; exact HW.out
      have hws : (s.extract 0 k).size = k := by rw [ByteArray.size_extract]; omega
      generalize hwd : s.extract 0 k = wd at *
      have HWD := Lib.hid hwd
      have HWL := Lib.hid hwl
      have HWS := Lib.hid hws
      clear hwd hwl hws HW
      rcases hcase with hc | ⟨hlt, hc⟩
      all_goals
        go_wp2_with fail
        have P0 : RS w 0 0 0 0 0 ((w.alloc (.cells #[.int .i64 0, .int .i64 0, .int .i64 0, .int .i64 0, .int .i16 0] 24)).alloc (.cells #[.int .i64 0, .int .i64 0, .int .i64 0, .int .i64 0, .int .i16 0] 24)) := by
          have := Cod.new (w := w.alloc (.cells #[.int .i64 0, .int .i64 0, .int .i64 0, .int .i64 0, .int .i16 0] 24)) 0 0 0 0 0 24
          rw [World.size_alloc] at this
          exact ⟨bt (ba _ _) (ba _ _), R0.next (ba _ _), this⟩
        generalize ((w.alloc (.cells #[.int .i64 0, .int .i64 0, .int .i64 0, .int .i64 0, .int .i16 0] 24)).alloc (.cells #[.int .i64 0, .int .i64 0, .int .i64 0, .int .i64 0, .int .i16 0] 24)) = w0 at *
        clear hc R0
        try clear hlt
        go_loopw [6] (fun i wr => ∃ (j : Nat) (o : Int), 1 ≤ j ∧ j ≤ 31 ∧ i = .int .i64 j ∧ RS w o 0 0 0 0 wr ∧ Fop wd j o) (fun i _ => 31 - (intOf i).toNat)
        case atStart => exact ⟨1, 0, by omega, by omega, rfl, P0, .inl ⟨rfl, fun i h1 h2 => by omega⟩⟩
        case round =>
          obtain ⟨j, o, hj1, hj2, rfl, PR, hf⟩ := hrel
          have HF := Lib.hid hf
          clear hf
          by_cases hlt : j < 31
          · have hj3 : (j : Int) ≤ 30 := by omega
            have HP := Lib.hid PR
            have MN := Lib.hid (show ∀ W, Calls Tryd.prog 39 #[.int .i64 (j : Int)] W fun e w' => e = .returned (.string (nam j)) ∧ Below W.heap.size W w' from fun W => by simpa using mnem_c (j : Int) W)
            clear PR
            by_cases he : nam j = wd
            · have hb : ((nam j).toList == (s.extract 0 k).toList) = true := by rw [HWD.out, he]; simp
              have HE := Lib.hid he
              clear he
              go_wp2_with fail
              have P1 := HP.out.next wr.drewB
              go_region_held3 (fun w' => RS w o 0 0 0 0 w') (first | exact P1 | exact HP.out | go_keep)
                ((go_at_call 39; (with_reducible refine (MN.out _).mono ?_); rintro e w1 ⟨rfl, hb1⟩; replace P1 := P1.next hb1))
              all_goals
                obtain ⟨lt, c0, c1, c2, c3, c4, f0, f1, f2, f3, f4⟩ := P1.box
                go_wp2_with fail
                go_roundw
                case rel => exact ⟨j + 1, (j : Int), by omega, by omega, by go_num, P1.setOp _, Fop.hit hj1 HE.out⟩
                case measure => simp [intOf]; omega
            · have hb : ((nam j).toList == (s.extract 0 k).toList) = false := by
                rw [HWD.out, beq_eq_false_iff_ne]
                exact fun e => he (toList_eq e)
              have HE := Lib.hid he
              clear he
              go_wp2_with fail
              have P1 := HP.out.next wr.drewB
              go_region_held3 (fun w' => RS w o 0 0 0 0 w') (first | exact P1 | exact HP.out | go_keep)
                ((go_at_call 39; (with_reducible refine (MN.out _).mono ?_); rintro e w1 ⟨rfl, hb1⟩; replace P1 := P1.next hb1))
              all_goals
                go_wp2_with fail
                go_roundw
                case rel => exact ⟨j + 1, o, by omega, by omega, by go_num, P1, HF.out.step HE.out⟩
                case measure => simp [intOf]; omega
          · obtain rfl : j = 31 := by omega
            have ho : 0 ≤ o ∧ o ≤ 30 := by rcases HF.out with ⟨h, -⟩ | ⟨h1, h2, -⟩ <;> omega
            have HOP := Lib.hid (show ∀ op a b c m : Int, Txt s op a b c m → op = o ∧ k = (nam op.toNat).data.toList.length from fun op a b c m h => by
              obtain ⟨hop, -⟩ := vld_bounds h.1
              have hw := txt_word h
              rw [← HWL.out] at hw
              have hw2 := bytes_ext hw
              have hlen : k = (nam op.toNat).data.toList.length := by rw [← hw, ← HWS.out]; simp
              refine ⟨?_, hlen⟩
              rcases HF.out with ⟨-, h2⟩ | ⟨h1, h2, h3⟩
              · exact absurd hw2.symm (h2 op.toNat (by omega) (by omega))
              · exact nam_inj hop ho (by rw [h3, hw2]))
            have HP := Lib.hid PR
            obtain ⟨o0, o30⟩ := ho
            obtain ⟨lt, c0, c1, c2, c3, c4, f0, f1, f2, f3, f4⟩ := PR.box
            clear PR
            go_wp2_with fail
            refine (shape_c o _).mono ?_
            rintro e w2 ⟨rfl, hw2⟩
            obtain rfl := hw2.symm
            clear hw2 lt c0 c1 c2 c3 c4 f0 f1 f2 f3 f4
            have hl3 := shp_len o.toNat
            have hsz := shs_len (shp o.toNat)
            have HZ := Lib.hid hsz
            have HA := Lib.hid (shs_at (shp o.toNat))
            have HI := Lib.hid (shp_in o.toNat)
            generalize hshs : shs (shp o.toNat) = t at *
            have hts : t.size ≤ 3 := by omega
            have hts' : (t.size : Int) ≤ 3 := by omega
            clear hshs hsz
            go_wp2_with fail
            go_loopw [8, 9] (fun v i wr => ∃ (q at_ : Nat) (a b c m : Int), q ≤ t.size ∧ i = .int .i64 q ∧ v = .int .i64 at_ ∧ at_ ≤ s.size + 2 ∧ (-65536 ≤ a ∧ a ≤ 65536) ∧ (-65536 ≤ b ∧ b ≤ 65536) ∧ (-65536 ≤ c ∧ c ≤ 65536) ∧ (-32768 ≤ m ∧ m ≤ 32767) ∧ RS w o a b c m wr ∧ GotR s o q at_ a b c m) (fun _ i _ => t.size - (intOf i).toNat)
            case atStart =>
              refine ⟨0, k + 1, 0, 0, 0, 0, by omega, rfl, by go_num, by omega, by decide, by decide, by decide, by decide, HP.out, fun a b c m m0 m1 h => ⟨by simp [kept], fun hq => ?_⟩⟩
              obtain ⟨-, hk2⟩ := HOP.out o a b c m h
              have := txt_rest h hq
              rw [← hk2] at this
              exact this
            case round =>
              obtain ⟨q, at_, a, b, c, m, hq, rfl, rfl, hat, ha, hb, hc, hm, PR, G⟩ := hrel
              clear HP
              have HP := Lib.hid PR
              have HG := Lib.hid G
              clear G
              by_cases hgo : q < t.size ∧ at_ ≤ s.size
              · obtain ⟨hqt, hats⟩ := hgo
                have hqt' : (q : Int) < (t.size : Int) := by omega
                have hats' : (at_ : Int) ≤ (s.size : Int) := by omega
                obtain ⟨wo, rfl⟩ : ∃ wo : World, wo = wr := ⟨_, rfl⟩
                clear PR
                go_wp2_with fail
                go_loop [10] (fun i => ∃ e9 : Nat, at_ ≤ e9 ∧ e9 ≤ s.size ∧ i = .int .i64 e9 ∧ (44 : UInt8) ∉ (s.data.toList.drop at_).take (e9 - at_)) (fun i => s.size - (intOf i).toNat)
                case atStart => exact ⟨at_, by omega, by omega, rfl, by simp⟩
                case round =>
                  obtain ⟨e9, he0, he1, rfl, hno⟩ := hrel
                  have HN := Lib.hid hno
                  clear hno
                  have hat9 : ∀ h : e9 < s.size, (s.data.toList.drop at_)[e9 - at_]? = some s[e9] := fun h => by
                    have e : s[e9] = s.data.toList[e9]'(by simpa using h) := rfl
                    rw [List.getElem?_drop, show at_ + (e9 - at_) = e9 from by omega, e, List.getElem?_eq_getElem]
                  have HAT := Lib.hid hat9
                  clear hat9
                  by_cases hgo : ∃ h : e9 < s.size, s[e9] ≠ 44
                  · obtain ⟨hlt, hne⟩ := hgo
                    have hb : ((s[e9].toNat : Int) == 44) = false := by
                      rw [beq_eq_false_iff_ne]
                      intro e
                      exact hne (by apply UInt8.toNat_inj.1; have e2 : (44 : UInt8).toNat = 44 := rfl; omega)
                    have HN2 := Lib.hid (show (44 : UInt8) ∉ (s.data.toList.drop at_).take (e9 + 1 - at_) from by
                      have e1 : e9 - at_ < (s.data.toList.drop at_).length := by have e3 : s.data.toList.length = s.size := by simp
                                                                                 rw [List.length_drop]; omega
                      have e2 : (s.data.toList.drop at_)[e9 - at_] = s[e9] := by have := HAT.out hlt; rw [List.getElem?_eq_getElem e1] at this; exact Option.some.inj this
                      rw [show e9 + 1 - at_ = (e9 - at_) + 1 from by omega, List.take_succ_eq_append_getElem e1, List.mem_append, List.mem_singleton, e2]
                      exact fun h => h.elim HN.out (fun e => hne e.symm))
                    clear hne
                    go_wp2_with fail
                    go_round
                    case rel => exact ⟨e9 + 1, by omega, by omega, by go_num, HN2.out⟩
                    case measure => simp [intOf]; omega
                  · have hstop : e9 - at_ = (s.data.toList.drop at_).length ∨ (s.data.toList.drop at_)[e9 - at_]? = some 44 := by
                      by_cases hlt : e9 < s.size
                      · right
                        rw [HAT.out hlt]
                        by_cases e : s[e9] = 44
                        · rw [e]
                        · exact absurd ⟨hlt, e⟩ hgo
                      · left
                        have e : s.data.toList.length = s.size := by simp
                        rw [List.length_drop]; omega
                    have hseg := tw_stop HN.out hstop
                    have hql : q < (shp o.toNat).length := by rw [← HZ.out]; exact hqt
                    obtain ⟨n, hn⟩ : ∃ n, n = valN ((s.data.toList.drop at_).take (e9 - at_)) := ⟨_, rfl⟩
                    have HGS := Lib.hid (gotR_step hql HG.out he0 he1 hseg hn)
                    have hnb := valN_bd ((s.data.toList.drop at_).take (e9 - at_))
                    rw [← hn] at hnb
                    obtain ⟨n0, n1⟩ := hnb
                    have vc := value_c (s.extract at_ e9) (by rw [ByteArray.size_extract]; omega)
                    rw [extract_list, ← hn] at vc
                    have VC := Lib.hid vc
                    have hcase : (¬ (e9 : Int) < (s.size : Int)) ∨ ∃ h : e9 < s.size, ((s[e9].toNat : Int) == 44) = true := by
                      by_cases hlt : e9 < s.size
                      · right
                        refine ⟨hlt, ?_⟩
                        by_cases e : s[e9] = 44
                        · rw [e]; rfl
                        · exact absurd ⟨hlt, e⟩ hgo
                      · left; omega
                    obtain ⟨h2, hc9⟩ := HA.out q hql
                    have hin := HI.out _ (List.getElem_mem hql)
                    generalize hx : (shp o.toNat)[q] = x at *
                    have he0' : (at_ : Int) ≤ (e9 : Int) := by omega
                    have he1' : (e9 : Int) ≤ (s.size : Int) := by omega
                    clear hgo hstop HAT HN hseg hn vc hx
                    obtain ⟨lt, c0, c1, c2, c3, c4, f0, f1, f2, f3, f4⟩ := HP.out.box
                    have hw1 : ∃ h : q < t.size, t[q] = shc x := ⟨h2, hc9⟩
                    clear hc9
                    rcases hcase with hc | ⟨hlt9, hc⟩
                    all_goals
                      go_wp2_with fail
                      refine (VC.out _).mono ?_
                      rintro e w4 ⟨rfl, rfl⟩
                      obtain ⟨hw0, hc9⟩ := hw1
                      clear hc
                      rcases hin with hxx | hxx | hxx | hxx
                      · subst hxx
                        have hq97 : ((t[q].toNat : Int) == 97) = true := by rw [hc9]; rfl
                        have HG2 := Lib.hid (show GotR s o (q + 1) (e9 + 2) n b c m from by have := HGS.out; simpa using this)
                        have PN := HP.out.put 0 n (Or.inl rfl)
                        clear hc9
                        go_wp2_with fail
                        go_roundw
                        case rel => exact ⟨q + 1, e9 + 2, n, b, c, m, by omega, by go_num, by go_num, by omega, by omega, by omega, by omega, by omega, by simpa [Go.Proofs.YtpgjmegecfaijaaDoor.setW] using PN, HG2.out⟩
                        case measure => simp [intOf]; omega
                      · subst hxx
                        have hq97 : ((t[q].toNat : Int) == 97) = false := by rw [hc9]; rfl
                        have hq98 : ((t[q].toNat : Int) == 98) = true := by rw [hc9]; rfl
                        have HG2 := Lib.hid (show GotR s o (q + 1) (e9 + 2) a n c m from by have := HGS.out; simpa using this)
                        have PN := HP.out.put 1 n (Or.inr (Or.inl rfl))
                        clear hc9
                        go_wp2_with fail
                        go_roundw
                        case rel => exact ⟨q + 1, e9 + 2, a, n, c, m, by omega, by go_num, by go_num, by omega, by omega, by omega, by omega, by omega, by simpa [Go.Proofs.YtpgjmegecfaijaaDoor.setW] using PN, HG2.out⟩
                        case measure => simp [intOf]; omega
                      · subst hxx
                        have hq97 : ((t[q].toNat : Int) == 97) = false := by rw [hc9]; rfl
                        have hq98 : ((t[q].toNat : Int) == 98) = false := by rw [hc9]; rfl
                        have hq99 : ((t[q].toNat : Int) == 99) = true := by rw [hc9]; rfl
                        have HG2 := Lib.hid (show GotR s o (q + 1) (e9 + 2) a b n m from by have := HGS.out; simpa using this)
                        have PN := HP.out.put 2 n (Or.inr (Or.inr (Or.inl rfl)))
                        clear hc9
                        go_wp2_with fail
                        go_roundw
                        case rel => exact ⟨q + 1, e9 + 2, a, b, n, m, by omega, by go_num, by go_num, by omega, by omega, by omega, by omega, by omega, by simpa [Go.Proofs.YtpgjmegecfaijaaDoor.setW] using PN, HG2.out⟩
                        case measure => simp [intOf]; omega
                      · subst hxx
                        have hq97 : ((t[q].toNat : Int) == 97) = false := by rw [hc9]; rfl
                        have hq98 : ((t[q].toNat : Int) == 98) = false := by rw [hc9]; rfl
                        have hq99 : ((t[q].toNat : Int) == 99) = false := by rw [hc9]; rfl
                        have HG2 := Lib.hid (show GotR s o (q + 1) (e9 + 2) a b c (IntKind.i16.wrap n) from by have := HGS.out; simpa using this)
                        have PN := HP.out.put 3 n (Or.inr (Or.inr (Or.inr rfl)))
                        clear hc9
                        go_wp2_with fail
                        go_roundw
                        case rel => exact ⟨q + 1, e9 + 2, a, b, c, (IntKind.i16.wrap n), by omega, by go_num, by go_num, by omega, by omega, by omega, by omega, by rw [wrap_i16]; omega, by simpa [Go.Proofs.YtpgjmegecfaijaaDoor.setW] using PN, HG2.out⟩
                        case measure => simp [intOf]; omega
              · have HFIN := Lib.hid (show ∀ a' b' c' m' : Int, -32768 ≤ m' → m' ≤ 32767 → Txt s o a' b' c' m' → Txt s o a b c m from fun a' b' c' m' m0 m1 h => by
                  obtain ⟨⟨e1, e2, e3, e4⟩, h2⟩ := HG.out a' b' c' m' m0 m1 h
                  by_cases hq2 : q < t.size
                  · have := h2 (by rw [← HZ.out]; exact hq2)
                    exact absurd ⟨hq2, this.1⟩ hgo
                  · have hqe : q = (shp o.toNat).length := by rw [← HZ.out]; omega
                    subst hqe
                    rw [List.take_length] at e1 e2 e3 e4
                    have hv := h.1
                    unfold vld at hv
                    simp only [Bool.and_eq_true, beq_iff_eq] at hv
                    rw [hv.2.2.1] at e1
                    rw [hv.2.2.2.1] at e2
                    rw [hv.2.2.2.2.1] at e3
                    rw [hv.2.2.2.2.2] at e4
                    subst e1 e2 e3 e4
                    exact h)
                have hcase : (¬ (q : Int) < (t.size : Int)) ∨ ((q : Int) < (t.size : Int) ∧ ¬ (at_ : Int) ≤ (s.size : Int)) := by omega
                clear hgo HG
                obtain ⟨ft, hft⟩ : ∃ ft : ByteArray, (if vld o a b c m = true then fmtS o a b c m else ⟨#[]⟩) = ft := ⟨_, rfl⟩
                have HFT := Lib.hid hft
                have fm := fun W => rfmt_any o a b c m hm W
                rw [hft] at fm
                have FM := Lib.hid fm
                clear hft fm
                have HM := Lib.hid hm
                have kz := PR.below
                by_cases ho0 : o = 0
                · have HNO := Lib.hid (show ∀ op a b c m : Int, -32768 ≤ m → m ≤ 32767 → ¬ Txt s op a b c m from fun op a b c m m0 m1 h => by
                    have h1 := (HOP.out op a b c m h).1
                    obtain ⟨hop, -⟩ := vld_bounds h.1
                    omega)
                  have hob : (o == 0) = true := by rw [ho0]; rfl
                  obtain ⟨lt, c0, c1, c2, c3, c4, f0, f1, f2, f3, f4⟩ := PR.res
                  obtain ⟨lt', d0, d1, d2, d3, d4, g0, g1, g2, g3, g4⟩ := PR.box
                  clear ho0
                  rcases hcase with hc | ⟨hc1, hc⟩
                  all_goals
                    go_wp2_with fail
                    refine bodyPost_ret (v := .tuple #[code 0 0 0 0 0, .int .i64 2]) (by simp [results, Tryd.results34, go_sem, *]) rfl ⟨.inr ⟨HNO.out, rfl⟩, ?_⟩
                    repeat' first | exact kz | refine Below.setCell ?_ ?_ _ | (simp; done)
                · have hob : (o == 0) = false := by simpa using ho0
                  by_cases heq : ft = s
                  · have HT := Lib.hid (show Txt s o a b c m from by
                      cases hv : vld o a b c m
                      · have e1 := HFT.out
                        rw [hv] at e1
                        have e2 : s = ⟨#[]⟩ := by rw [← heq, ← e1]; rfl
                        have e3 : wd = ⟨#[]⟩ := bytes_ext (by rw [HWL.out, e2]; rfl)
                        rcases HF.out with ⟨h1, -⟩ | ⟨h1, h2, h3⟩
                        · exact absurd h1 ho0
                        · exact absurd (h3.trans e3) (nam_in o.toNat (by omega) (by omega))
                      · have e1 := HFT.out
                        rw [if_pos hv] at e1
                        exact ⟨hv, by rw [e1, heq]⟩)
                    have hq : (ft.toList == s.toList) = true := by rw [heq]; simp
                    have hq2 : (!(ft.toList == s.toList)) = false := by rw [hq]; rfl
                    obtain ⟨lt', d0, d1, d2, d3, d4, g0, g1, g2, g3, g4⟩ := PR.box
                    clear heq ho0
                    rcases hcase with hc | ⟨hc1, hc⟩
                    all_goals
                      go_wp2_with fail
                      refine (FM.out _).mono ?_
                      rintro e w5 ⟨rfl, hb5⟩
                      have P5 := PR.next hb5
                      have kz5 := P5.below
                      clear lt' d0 d1 d2 d3 d4 g0 g1 g2 g3 g4
                      obtain ⟨lt, c0, c1, c2, c3, c4, f0, f1, f2, f3, f4⟩ := P5.res
                      obtain ⟨lt', d0, d1, d2, d3, d4, g0, g1, g2, g3, g4⟩ := P5.box
                      go_wp2_with fail
                      refine bodyPost_ret (v := .tuple #[code o a b c m, .int .i64 0]) (by simp [results, Tryd.results34, go_sem, *]) rfl ⟨.inl ⟨o, a, b, c, m, HM.out.1, HM.out.2, HT.out, rfl⟩, ?_⟩
                      repeat' first | exact kz5 | refine Below.setCell ?_ ?_ _ | (simp; done)
                  · have hq : (ft.toList == s.toList) = false := by
                      rw [beq_eq_false_iff_ne]; exact fun e => heq (toList_eq e)
                    have HNO := Lib.hid (show ∀ op a b c m : Int, -32768 ≤ m → m ≤ 32767 → ¬ Txt s op a b c m from fun op a' b' c' m' m0 m1 h => by
                      have h1 := (HOP.out op a' b' c' m' h).1
                      subst h1
                      have h2 := HFIN.out a' b' c' m' m0 m1 h
                      have e1 := HFT.out
                      rw [if_pos h2.1, h2.2] at e1
                      exact heq e1.symm)
                    obtain ⟨lt', d0, d1, d2, d3, d4, g0, g1, g2, g3, g4⟩ := PR.box
                    clear heq ho0
                    rcases hcase with hc | ⟨hc1, hc⟩
                    all_goals
                      go_wp2_with fail
                      refine (FM.out _).mono ?_
                      rintro e w5 ⟨rfl, hb5⟩
                      have P5 := PR.next hb5
                      have kz5 := P5.below
                      clear lt' d0 d1 d2 d3 d4 g0 g1 g2 g3 g4
                      obtain ⟨lt, c0, c1, c2, c3, c4, f0, f1, f2, f3, f4⟩ := P5.res
                      go_wp2_with fail
                      refine bodyPost_ret (v := .tuple #[code 0 0 0 0 0, .int .i64 2]) (by simp [results, Tryd.results34, go_sem, *]) rfl ⟨.inr ⟨HNO.out, rfl⟩, ?_⟩
                      repeat' first | exact kz5 | refine Below.setCell ?_ ?_ _ | (simp; done)
end Go.Proofs.YtpgjmegecfaijaaDoor
