/-
  parse: a line read.
-/
import Derived.Test.YtgdaekjodhebfaaDoorLinp
import Derived.Deep.DrawnRows
import Derived.BigRegion
namespace Go.Proofs.YtgdaekjodhebfaaDoor
open Go.RowKit
attribute [local go_sem ↓] Go.wp_at_zero Go.wp_at_succ

/-- the two cells of the result, not yet written -/
structure R0 (w : World) (W : World) : Prop where
  ready : Ready W
  below : Below w.heap.size w W
  lt : w.heap.size < W.heap.size
  r0 : W.cell? ⟨w.heap.size, 0, none⟩ = some (.int .i64 0)
  r1 : W.cell? ⟨w.heap.size, 1, none⟩ = some (.int .i16 0)
  f0 : W.frozen? ⟨w.heap.size, 0, none⟩ = false
  f1 : W.frozen? ⟨w.heap.size, 1, none⟩ = false
theorem R0.start (w : World) (hr : Ready w) : R0 w (w.alloc (.cells #[.int .i64 0, .int .i16 0] 29)) := by
  refine ⟨hr.below (ba _ _), ba _ _, by simp, ?_, ?_, ?_, ?_⟩ <;> go_simp
theorem R0.next {w W W' : World} (h : R0 w W) (hb : Below W.heap.size W W') : R0 w W' := by
  obtain ⟨hc, hf⟩ := bcell hb
  have hs := h.lt
  exact ⟨h.ready.below hb, h.below.trans (hb.mono h.below.size), Nat.lt_of_lt_of_le hs hb.size, (hc _ _ hs).trans h.r0, (hc _ _ hs).trans h.r1, (hf _ _ hs).trans h.f0, (hf _ _ hs).trans h.f1⟩
/-- the result's cells and those of c, in block X -/
structure PX (w : World) (X : Nat) (t v : Int) (W : World) : Prop where
  r : R0 w W
  b : BX w X t v W
  more : w.heap.size < X
theorem PX.next {w W W' : World} {X : Nat} {t v : Int} (h : PX w X t v W) (hb : Below W.heap.size W W') : PX w X t v W' := ⟨h.r.next hb, h.b.next hb, h.more⟩
theorem R0.box {w W : World} (h : R0 w W) (t v : Int) : PX w W.heap.size t v (W.alloc (.cells #[.int .i64 t, .int .i16 v] 29)) := ⟨h.next (ba _ _), BX.start h.below h.ready t v 29, h.lt⟩
/-- ParseInt at 16 bits, whatever is found -/
theorem parse16_any (s : ByteArray) (hs : s.size ≤ 140737488351232) (w : World) (hr : Ready w) :
    Calls Tryd.prog 42 #[.string s, .int .i64 10, .int .i64 16] w fun e w' => ∃ (n : Int) (E : Value), (E = .nilIface ∨ ∃ N, E = .iface 101 (.pointer (some ⟨N, 0, none⟩))) ∧ e = .returned (.tuple #[.int .i64 n, E]) ∧ Below w.heap.size w w' := by
  by_cases h : ∃ v, Lib.parseIntB 16 s.data.toList = .ok v
  · obtain ⟨v, h⟩ := h
    exact (parse16_ok s hs v h w).mono fun _ _ ⟨he, hb⟩ => ⟨v, _, .inl rfl, he, hb⟩
  · exact (parse16_bad s hs (fun v e => h ⟨v, e⟩) w hr).mono fun _ _ ⟨n, N, _, _, he, hb⟩ => ⟨n, _, .inr ⟨N, rfl⟩, he, hb⟩
set_option maxRecDepth 100000 in
set_option maxHeartbeats 4000000 in
theorem parse_yes (s : ByteArray) (hs : s.size ≤ 2000) (w : World) (hr : Ready w) {t v : Int} (h1 : Lib.parseIntB 64 (Lib.cut (Lib.trimSuffix s.data.toList [10]) [32]).1 = .ok t) (h2 : Lib.parseIntB 16 (Lib.cut (Lib.trimSuffix s.data.toList [10]) [32]).2.1 = .ok v) : Calls Tryd.prog 30 #[.string s] w (ParseP s.data.toList w) := by
  generalize hp : Lib.trimSuffix s.data.toList [10] = p at *
  obtain ⟨a, b, f, hc⟩ : ∃ a b f, Lib.cut p [32] = (a, b, f) := ⟨_, _, _, rfl⟩
  have hpl : p.length ≤ 2000 := by have := Lib.trimSuffix_le s.data.toList [10]; rw [hp] at this; simp at this; have : s.data.size = s.size := rfl; omega
  have hal : (⟨a.toArray⟩ : ByteArray).size ≤ 2000 := by have := (cut_le p [32]).1; rw [hc] at this; simpa [ByteArray.size] using Nat.le_trans this hpl
  have hbl : (⟨b.toArray⟩ : ByteArray).size ≤ 2000 := by have := (cut_le p [32]).2; rw [hc] at this; simpa [ByteArray.size] using Nat.le_trans this hpl
  have hx : ∀ x : Int × Int, s.data.toList = lineT x → a = Lib.itoa x.1 ∧ b = Lib.itoa x.2 := by
    intro x e
    have h := cut_line x
    rw [← e, hp, hc] at h
    simp at h
    exact ⟨h.1, h.2.1⟩
  have HC := Lib.hid (show Lib.cut (⟨p.toArray⟩ : ByteArray).data.toList (⟨#[32]⟩ : ByteArray).data.toList = (a, b, f) from hc)
  have HX := Lib.hid hx
  have hps : (⟨p.toArray⟩ : ByteArray).size ≤ 2000 := by simpa [ByteArray.size] using hpl
  have HT := Lib.hid (Tryd.strings_TrimSuffix s ⟨#[10]⟩)
  rw [show (⟨#[10]⟩ : ByteArray).data.toList = [10] from rfl, hp] at HT
  rw [hc] at h1 h2
  simp only at h1 h2
  clear hx hc hpl hp
  have hb1 := Lib.parseIntB_bounds h1
  have bt64 : B64 t := ⟨by have := hb1.1; simpa using this, by have := hb1.2; simp at this; omega⟩
  have H1 := Lib.hid h1
  clear h1 hb1
  have hb2 := Lib.parseIntB_bounds h2
  have bv16 : B16 v := ⟨by have := hb2.1; simpa using this, by have := hb2.2; simp at this; omega⟩
  have H2 := Lib.hid h2
  have hw16 : IntKind.i16.wrap v = v := IntWalk.i16_in _ (by have := bv16.1; have := bv16.2; omega)
  have HE := Lib.hid (show (∀ x : Int × Int, B64 x.1 → B16 x.2 → s.data.toList = lineT x → x = (t, v)) from fun x x1 x2 e => by
    obtain ⟨ea, eb⟩ := HX.out x e
    have k1 := H1.out
    have k2 := H2.out
    rw [ea, parse64_itoa x1] at k1
    rw [eb, parse16_itoa x2] at k2
    injection k1 with k1
    injection k2 with k2
    rw [← k1, ← k2])
  have HQ := Lib.hid (show ∀ e w', e = .returned (.tuple #[.agg #[.int .i64 t, .int .i16 v], .bool (lineT (t, v) == s.toList)]) → Below w.heap.size w w' → ParseP s.data.toList w e w' from fun e w' he hb => by
    rw [Lib.toList_data] at he
    refine ⟨t, v, _, he, fun h => ⟨bt64, bv16, (eq_of_beq h).symm⟩, fun h x x1 x2 e => ?_, hb⟩
    have := HE.out x x1 x2 e
    subst this
    rw [e] at h
    simp at h)
  clear h2 hb2
  go_enter Tryd.func30, Tryd.ntmps30
  go_wp2_with fail
  have k0 := R0.start w hr
  refine (HT.out _ (by omega)).mono ?_
  rintro e w1 ⟨rfl, rfl⟩
  go_wp2_with fail
  refine (cut_is _ _ (by omega) HC.out _ k0.ready).mono ?_
  rintro e w1 ⟨rfl, hb1⟩
  have k1 := k0.next hb1
  clear hb1 k0
  go_wp2_with fail
  refine (parse64_ok _ (by omega) t H1.out _).mono ?_
  rintro e w2 ⟨rfl, hb2⟩
  have k2 := k1.next hb2
  clear hb2 k1
  go_wp2_with fail
  refine (parse16_ok _ (by omega) v H2.out _).mono ?_
  rintro e w3 ⟨rfl, hb3⟩
  have k3 := k2.next hb3
  clear hb3 k2
  go_wp2_with fail
  have K := k3.box t v
  clear k3
  generalize hA : w3.heap.size = A at *
  generalize w3.alloc (.cells #[.int .i64 t, .int .i16 v] 29) = W at *
  replace K := K.next W.drewB
  have hne : w.heap.size ≠ A := by have := K.more; omega
  obtain ⟨⟨_, _, kl, r0, r1, f0, f1⟩, ⟨_, _, xl, x0, x1⟩, _⟩ := id K
  go_region_held3 (fun w' => w'.cell? ⟨A, 0, none⟩ = some (.int .i64 t) ∧ w'.cell? ⟨A, 1, none⟩ = some (.int .i16 v)) (first | exact ⟨K.b.x0, K.b.x1⟩ | go_keep) (first | (go_at_call 33; (with_reducible refine (line_c t v bt64 bv16 _ K.b.ready).mono ?_); rintro e w5 ⟨rfl, hb5⟩; replace K := K.next hb5; obtain ⟨⟨_, _, kl, r0, r1, f0, f1⟩, ⟨_, _, xl, x0, x1⟩, _⟩ := id K))
  all_goals go_wp2_with fail
  all_goals exact bodyPost_ret (v := .tuple #[.agg #[.int .i64 t, .int .i16 v], .bool (lineT (t, v) == s.toList)]) (by simp [results, Tryd.results30, go_sem, *]) rfl (HQ.out _ _ rfl ((K.b.below.setCell (p := ⟨w.heap.size, 0, none⟩) (Nat.le_refl _) _).setCell (p := ⟨w.heap.size, 1, none⟩) (Nat.le_refl _) _))
set_option maxRecDepth 100000 in
set_option maxHeartbeats 4000000 in
theorem parse_half (s : ByteArray) (hs : s.size ≤ 2000) (w : World) (hr : Ready w) {t : Int} (h1 : Lib.parseIntB 64 (Lib.cut (Lib.trimSuffix s.data.toList [10]) [32]).1 = .ok t) (h2 : ¬ ∃ v, Lib.parseIntB 16 (Lib.cut (Lib.trimSuffix s.data.toList [10]) [32]).2.1 = .ok v) : Calls Tryd.prog 30 #[.string s] w (ParseP s.data.toList w) := by
  generalize hp : Lib.trimSuffix s.data.toList [10] = p at *
  obtain ⟨a, b, f, hc⟩ : ∃ a b f, Lib.cut p [32] = (a, b, f) := ⟨_, _, _, rfl⟩
  have hpl : p.length ≤ 2000 := by have := Lib.trimSuffix_le s.data.toList [10]; rw [hp] at this; simp at this; have : s.data.size = s.size := rfl; omega
  have hal : (⟨a.toArray⟩ : ByteArray).size ≤ 2000 := by have := (cut_le p [32]).1; rw [hc] at this; simpa [ByteArray.size] using Nat.le_trans this hpl
  have hbl : (⟨b.toArray⟩ : ByteArray).size ≤ 2000 := by have := (cut_le p [32]).2; rw [hc] at this; simpa [ByteArray.size] using Nat.le_trans this hpl
  have hx : ∀ x : Int × Int, s.data.toList = lineT x → a = Lib.itoa x.1 ∧ b = Lib.itoa x.2 := by
    intro x e
    have h := cut_line x
    rw [← e, hp, hc] at h
    simp at h
    exact ⟨h.1, h.2.1⟩
  have HC := Lib.hid (show Lib.cut (⟨p.toArray⟩ : ByteArray).data.toList (⟨#[32]⟩ : ByteArray).data.toList = (a, b, f) from hc)
  have HX := Lib.hid hx
  have hps : (⟨p.toArray⟩ : ByteArray).size ≤ 2000 := by simpa [ByteArray.size] using hpl
  have HT := Lib.hid (Tryd.strings_TrimSuffix s ⟨#[10]⟩)
  rw [show (⟨#[10]⟩ : ByteArray).data.toList = [10] from rfl, hp] at HT
  rw [hc] at h1 h2
  simp only at h1 h2
  clear hx hc hpl hp
  have H1 := Lib.hid h1
  clear h1
  have HQ := Lib.hid (show ∀ e w', (∃ t v, e = .returned (.tuple #[.agg #[.int .i64 t, .int .i16 v], .bool false])) → Below w.heap.size w w' → ParseP s.data.toList w e w' from fun e w' ⟨t, v, he⟩ hb => ⟨t, v, _, he, fun h => by simp at h, fun _ x x1 x2 e => h2 ⟨x.2, by
    obtain ⟨ea, eb⟩ := HX.out x e
    rw [eb, parse16_itoa x2]⟩, hb⟩)
  have H2 := Lib.hid (show ∀ v, Lib.parseIntB 16 (⟨b.toArray⟩ : ByteArray).data.toList ≠ .ok v from fun v e => h2 ⟨v, e⟩)
  clear h2
  go_enter Tryd.func30, Tryd.ntmps30
  go_wp2_with fail
  have k0 := R0.start w hr
  refine (HT.out _ (by omega)).mono ?_
  rintro e w1 ⟨rfl, rfl⟩
  go_wp2_with fail
  refine (cut_is _ _ (by omega) HC.out _ k0.ready).mono ?_
  rintro e w1 ⟨rfl, hb1⟩
  have k1 := k0.next hb1
  clear hb1 k0
  go_wp2_with fail
  refine (parse64_ok _ (by omega) t H1.out _).mono ?_
  rintro e w2 ⟨rfl, hb2⟩
  have k2 := k1.next hb2
  clear hb2 k1
  go_wp2_with fail
  refine (parse16_bad _ (by omega) H2.out _ k2.ready).mono ?_
  rintro e w3 ⟨n, N, n0, n1, rfl, hb3⟩
  have k3 := k2.next hb3
  clear hb3 k2
  go_wp2_with fail
  generalize IntKind.i16.wrap n = v at *
  have K := k3.box t v
  clear k3
  generalize hA : w3.heap.size = A at *
  generalize w3.alloc (.cells #[.int .i64 t, .int .i16 v] 29) = W at *
  have hne : w.heap.size ≠ A := by have := K.more; omega
  obtain ⟨⟨_, _, kl, r0, r1, f0, f1⟩, ⟨_, _, xl, x0, x1⟩, _⟩ := id K
  clear H1 H2 HC HX HT hal hbl hps hs hr hA
  go_region
  all_goals go_wp2_with fail
  all_goals exact bodyPost_ret (v := .tuple #[.agg #[.int .i64 t, .int .i16 v], .bool false]) (by simp [results, Tryd.results30, go_sem, *]) rfl (HQ.out _ _ ⟨_, _, rfl⟩ (((K.b.below.setCell (p := ⟨w.heap.size, 0, none⟩) (Nat.le_refl _) _).setCell (p := ⟨w.heap.size, 1, none⟩) (Nat.le_refl _) _).drew))
set_option maxRecDepth 100000 in
set_option maxHeartbeats 4000000 in
theorem parse_none (s : ByteArray) (hs : s.size ≤ 2000) (w : World) (hr : Ready w) (h1 : ¬ ∃ t, Lib.parseIntB 64 (Lib.cut (Lib.trimSuffix s.data.toList [10]) [32]).1 = .ok t) : Calls Tryd.prog 30 #[.string s] w (ParseP s.data.toList w) := by
  generalize hp : Lib.trimSuffix s.data.toList [10] = p at *
  obtain ⟨a, b, f, hc⟩ : ∃ a b f, Lib.cut p [32] = (a, b, f) := ⟨_, _, _, rfl⟩
  have hpl : p.length ≤ 2000 := by have := Lib.trimSuffix_le s.data.toList [10]; rw [hp] at this; simp at this; have : s.data.size = s.size := rfl; omega
  have hal : (⟨a.toArray⟩ : ByteArray).size ≤ 2000 := by have := (cut_le p [32]).1; rw [hc] at this; simpa [ByteArray.size] using Nat.le_trans this hpl
  have hbl : (⟨b.toArray⟩ : ByteArray).size ≤ 2000 := by have := (cut_le p [32]).2; rw [hc] at this; simpa [ByteArray.size] using Nat.le_trans this hpl
  have hx : ∀ x : Int × Int, s.data.toList = lineT x → a = Lib.itoa x.1 ∧ b = Lib.itoa x.2 := by
    intro x e
    have h := cut_line x
    rw [← e, hp, hc] at h
    simp at h
    exact ⟨h.1, h.2.1⟩
  have HC := Lib.hid (show Lib.cut (⟨p.toArray⟩ : ByteArray).data.toList (⟨#[32]⟩ : ByteArray).data.toList = (a, b, f) from hc)
  have HX := Lib.hid hx
  have hps : (⟨p.toArray⟩ : ByteArray).size ≤ 2000 := by simpa [ByteArray.size] using hpl
  have HT := Lib.hid (Tryd.strings_TrimSuffix s ⟨#[10]⟩)
  rw [show (⟨#[10]⟩ : ByteArray).data.toList = [10] from rfl, hp] at HT
  rw [hc] at h1
  simp only at h1
  clear hx hc hpl hp
  have HQ := Lib.hid (show ∀ e w', (∃ t v, e = .returned (.tuple #[.agg #[.int .i64 t, .int .i16 v], .bool false])) → Below w.heap.size w w' → ParseP s.data.toList w e w' from fun e w' ⟨t, v, he⟩ hb => ⟨t, v, _, he, fun h => by simp at h, fun _ x x1 x2 e => h1 ⟨x.1, by
    obtain ⟨ea, eb⟩ := HX.out x e
    rw [ea, parse64_itoa x1]⟩, hb⟩)
  have H1 := Lib.hid (show ∀ v, Lib.parseIntB 64 (⟨a.toArray⟩ : ByteArray).data.toList ≠ .ok v from fun v e => h1 ⟨v, e⟩)
  clear h1
  go_enter Tryd.func30, Tryd.ntmps30
  go_wp2_with fail
  have k0 := R0.start w hr
  refine (HT.out _ (by omega)).mono ?_
  rintro e w1 ⟨rfl, rfl⟩
  go_wp2_with fail
  refine (cut_is _ _ (by omega) HC.out _ k0.ready).mono ?_
  rintro e w1 ⟨rfl, hb1⟩
  have k1 := k0.next hb1
  clear hb1 k0
  go_wp2_with fail
  refine (parse64_bad _ (by omega) H1.out _ k1.ready).mono ?_
  rintro e w2 ⟨t, N, n0, n1, rfl, hb2⟩
  have k2 := k1.next hb2
  clear hb2 k1
  go_wp2_with fail
  refine (parse16_any _ (by omega) _ k2.ready).mono ?_
  rintro e w3 ⟨n, E, hE, rfl, hb3⟩
  clear hE
  have k3 := k2.next hb3
  clear hb3 k2
  go_wp2_with fail
  generalize IntKind.i16.wrap n = v at *
  have K := k3.box t v
  clear k3
  generalize hA : w3.heap.size = A at *
  generalize w3.alloc (.cells #[.int .i64 t, .int .i16 v] 29) = W at *
  have hne : w.heap.size ≠ A := by have := K.more; omega
  obtain ⟨⟨_, _, kl, r0, r1, f0, f1⟩, ⟨_, _, xl, x0, x1⟩, _⟩ := id K
  clear H1 HC HX HT hal hbl hps hs hr hA
  go_region
  all_goals go_wp2_with fail
  all_goals exact bodyPost_ret (v := .tuple #[.agg #[.int .i64 t, .int .i16 v], .bool false]) (by simp [results, Tryd.results30, go_sem, *]) rfl (HQ.out _ _ ⟨_, _, rfl⟩ (((K.b.below.setCell (p := ⟨w.heap.size, 0, none⟩) (Nat.le_refl _) _).setCell (p := ⟨w.heap.size, 1, none⟩) (Nat.le_refl _) _).drew))
theorem parse_c (s : ByteArray) (hs : s.size ≤ 2000) (w : World) (hr : Ready w) : Calls Tryd.prog 30 #[.string s] w (ParseP s.data.toList w) := by
  by_cases h1 : ∃ t, Lib.parseIntB 64 (Lib.cut (Lib.trimSuffix s.data.toList [10]) [32]).1 = .ok t
  · obtain ⟨t, h1⟩ := h1
    by_cases h2 : ∃ v, Lib.parseIntB 16 (Lib.cut (Lib.trimSuffix s.data.toList [10]) [32]).2.1 = .ok v
    · obtain ⟨v, h2⟩ := h2
      exact parse_yes s hs w hr h1 h2
    · exact parse_half s hs w hr h1 h2
  · exact parse_none s hs w hr h1
end Go.Proofs.YtgdaekjodhebfaaDoor
