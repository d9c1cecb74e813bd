/-
  word, digits, and the two Format.
-/
import Derived.Test.YtabfjiapoafgaaaDoorBase
import Derived.Test.YtabfjiapoafgaaaDoorShelfB
import Derived.Test.YtabfjiapoafgaaaDoorVal
import Derived.Lib.ItoaLen
namespace Go.Proofs.YtabfjiapoafgaaaDoor
open Go.RowKit
set_option linter.unusedVariables false
attribute [local go_sem ↓] Go.wp_at_zero Go.wp_at_succ

/-- the two cells of a period -/
structure BP (w0 : World) (X : Nat) (t v : Int) (W : World) : Prop where
  ready : Ready W
  below : Below w0.heap.size w0 W
  lt : X < W.heap.size
  x0 : W.cell? ⟨X, 0, none⟩ = some (.int .i64 t)
  x1 : W.cell? ⟨X, 1, none⟩ = some (.int .i64 v)
theorem BP.next {w0 W W' : World} {X : Nat} {t v : Int} (h : BP w0 X t v W) (hb : Below W.heap.size W W') : BP w0 X t v W' :=
  ⟨h.ready.below hb, h.below.trans (hb.mono h.below.size), Nat.lt_of_lt_of_le h.lt hb.size, ((bcell hb).1 _ _ h.lt).trans h.x0, ((bcell hb).1 _ _ h.lt).trans h.x1⟩
theorem BP.start {w0 w : World} (h : Below w0.heap.size w0 w) (hr : Ready w) (t v : Int) (e : TypeId) : BP w0 w.heap.size t v (w.alloc (.cells #[.int .i64 t, .int .i64 v] e)) :=
  ⟨hr.below (ba _ _), bt h (ba _ _), by simp, (new_period w t v e).1, (new_period w t v e).2⟩
theorem wordT_len (x : Int × Int) (h1 : B64 x.1) (h2 : B64 x.2) : (wordT x).length ≤ 43 := by
  have la := Lib.itoa_length_le x.1 h1.1 h1.2
  have lb := Lib.itoa_length_le x.2 h2.1 h2.2
  unfold wordT
  simp
  omega
set_option maxRecDepth 100000 in
set_option maxHeartbeats 1000000 in
theorem word_c (t v : Int) (ht : B64 t) (hv : B64 v) (w : World) (hr : Ready w) : Calls Tryd.prog 33 #[.agg #[.int .i64 t, .int .i64 v]] w fun e w' => e = .returned (.string ⟨(wordT (t, v)).toArray⟩) ∧ Below w.heap.size w w' := by
  obtain ⟨t0, t1⟩ := ht
  obtain ⟨v0, v1⟩ := hv
  have la := Lib.itoa_length_le t t0 t1
  have lb := Lib.itoa_length_le v v0 v1
  have r1 := fun W => run_string_add_sum (P := Tryd.prog) W ⟨(Lib.itoa t).toArray⟩ ⟨#[64]⟩ (by simp [ByteArray.size]; omega)
  have r2 := fun W => run_string_add_sum (P := Tryd.prog) W (⟨(Lib.itoa t).toArray⟩ ++ ⟨#[64]⟩) ⟨(Lib.itoa v).toArray⟩ (by simp [ByteArray.size]; omega)
  have K := BP.start (Below.refl _ _) hr t v 38
  have x0 := K.x0
  have x1 := K.x1
  have HT := Lib.hid (show (⟨(wordT (t, v)).toArray⟩ : ByteArray) = ⟨(Lib.itoa t).toArray⟩ ++ ⟨#[64]⟩ ++ ⟨(Lib.itoa v).toArray⟩ from by
    rw [show (⟨#[64]⟩ : ByteArray) = ⟨([64] : List UInt8).toArray⟩ from rfl, bytes_append, bytes_append]; rfl)
  go_enter Tryd.func33, Tryd.ntmps33
  go_wp2_with fail
  clear x0 x1
  generalize w.heap.size = A at *
  generalize w.alloc (.cells #[.int .i64 t, .int .i64 v] 38) = W at *
  replace K := K.next W.drewB
  go_region_held3 (fun w' => w'.cell? ⟨A, 0, none⟩ = some (.int .i64 t) ∧ w'.cell? ⟨A, 1, none⟩ = some (.int .i64 v) ∧ BP w A t v w') (first | exact ⟨K.x0, K.x1, K⟩ | go_keep)
    (first
      | (go_at_call 49; (with_reducible refine (itoa_c t t0 t1 _ K.ready).mono ?_); rintro e w1 ⟨rfl, hb1⟩; replace K := K.next hb1)
      | (go_at_call 50; (with_reducible refine (formatInt_c v v0 v1 _ K.ready).mono ?_); rintro e w2 ⟨rfl, hb2⟩; replace K := K.next hb2))
  all_goals go_wp2_with fail
  all_goals go_ret
  all_goals exact ⟨ret_str HT.out.symm, K.below⟩
set_option maxRecDepth 100000 in
theorem digits_c (k : Nat) : ∀ (n : Nat) (w : World), n ≤ k → n ≤ 9223372036854775807 →
    Calls Tryd.prog 39 #[.int .i64 n] w fun e w' => e = .returned (.string ⟨(Lib.decDigits n).toArray⟩) ∧ Below w.heap.size w w' := by
  induction k using Nat.strongRecOn with
  | _ k ih =>
  intro n w hk hm
  by_cases hn : n < 10
  · have hn' : (n : Int) < 10 := by omega
    have hcv := run_one_byte (P := Tryd.prog) Tryd.underlying50 Tryd.underlying5 Tryd.underlying9 (48 + (n : Int)) (by omega) (by omega)
    have hd : Lib.decDigits n = [UInt8.ofNat (48 + n)] := Dec.decDigits_small hn
    have HD := Lib.hid hd
    clear hd
    go_enter Tryd.func39, Tryd.ntmps39
    go_wp2_with fail
    go_ret
    exact ⟨by rw [HD.out]; rfl, (Below.refl _ _).alloc (Nat.le_refl _) _⟩
  · have hn' : ¬ (n : Int) < 10 := by omega
    have hd := Dec.decDigits_big hn
    have hl1 : (Lib.decDigits (n / 10)).length ≤ 19 := Dec.decDigits_len (k := 18) (by omega)
    have hl2 : (Lib.decDigits (n % 10)).length ≤ 1 := Dec.decDigits_len (k := 0) (by omega)
    have HD := Lib.hid hd
    clear hd
    go_enter Tryd.func39, Tryd.ntmps39
    go_wp2_with fail
    rw [show (n : Int) / 10 = ((n / 10 : Nat) : Int) from by omega]
    refine (ih (n / 10) (by omega) (n / 10) _ (Nat.le_refl _) (by omega)).mono ?_
    rintro e w1 ⟨rfl, hb1⟩
    go_wp2_with fail
    rw [show (n : Int) % 10 = ((n % 10 : Nat) : Int) from by omega]
    refine (ih (n % 10) (by omega) (n % 10) _ (Nat.le_refl _) (by omega)).mono ?_
    rintro e w2 ⟨rfl, hb2⟩
    go_wp2_with fail
    go_ret
    exact ⟨by rw [HD.out, ← Dec.decDigits_small (u := n % 10) (by omega), ← bytes_append]; rfl, hb1.trans (hb2.mono hb1.size)⟩
theorem digits_i (n : Int) (h0 : 0 ≤ n) (h1 : n ≤ 9223372036854775807) (w : World) : Calls Tryd.prog 39 #[.int .i64 n] w fun e w' => e = .returned (.string ⟨(Lib.itoa n).toArray⟩) ∧ Below w.heap.size w w' := by
  obtain ⟨m, rfl⟩ := Int.eq_ofNat_of_zero_le h0
  rw [Dec.itoa_nonneg (by omega), Int.toNat_natCast]
  exact digits_c m m w (Nat.le_refl _) (by omega)
end Go.Proofs.YtabfjiapoafgaaaDoor
