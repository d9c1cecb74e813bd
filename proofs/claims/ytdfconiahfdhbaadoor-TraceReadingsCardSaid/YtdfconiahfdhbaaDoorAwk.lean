/-
  The example that the laws begin with.
-/
import Derived.Test.YtdfconiahfdhbaaDoorPrs
import Derived.Test.YtdfconiahfdhbaaDoorEql
import Derived.Deep.RegionHeld3
namespace Go.Proofs.YtdfconiahfdhbaaDoor
open Go.RowKit
attribute [local go_sem ↓] Go.wp_at_zero Go.wp_at_succ

def evX : Ev := ⟨4, 7, 1, 0, -3, 0⟩
def txtX : List UInt8 := [55, 32, 114, 101, 97, 100, 32, 49, 32, 48, 32, 45, 51, 10]
theorem inX : InE evX := ⟨by unfold B64; decide, by unfold B64; decide, by unfold B64; decide, by unfold B64; decide, by unfold B16; decide, by unfold B64; decide⟩
theorem validX : validE evX = true := by decide
theorem lineX : lineE evX = txtX := by
  have h7 : Lib.itoa 7 = [55] := by rw [Dec.itoa_nonneg (by decide), Dec.decDigits_small (by decide)]; rfl
  have h1 : Lib.itoa 1 = [49] := by rw [Dec.itoa_nonneg (by decide), Dec.decDigits_small (by decide)]; rfl
  have h0 : Lib.itoa 0 = [48] := by rw [Dec.itoa_nonneg (by decide), Dec.decDigits_small (by decide)]; rfl
  have h3 : Lib.itoa (-3) = [45, 51] := by rw [Dec.itoa_neg (by decide), Dec.decDigits_small (by decide)]; rfl
  have hk : kindW evX.kind.toNat = [114, 101, 97, 100] := by decide
  have hf : flds evX = [0, 1, 4] := by decide
  have g0 : getE evX 0 = 1 := by decide
  have g1 : getE evX 1 = 0 := by decide
  have g4 : getE evX 4 = -3 := by decide
  unfold lineE lineN headE bodyE
  rw [hk, hf]
  simp only [List.flatMap_cons, List.flatMap_nil, g0, g1, g4, h1, h0, h3, show evX.time = 7 from rfl, h7]
  rfl
theorem txt_one : txt [evX] = txtX := by unfold txt; simp [lineX]
theorem vldX : Vld [evX] := fun e he => by rw [List.mem_singleton.1 he]; exact ⟨inX, validX⟩
theorem Evs.one (w : World) (e : Ev) (t : TypeId) : Evs (w.alloc (.cells #[.int .i64 e.kind, .int .i64 e.time, .int .i64 e.task, .int .i64 e.n, .int .i16 e.value, .int .i64 e.port] t)) (some ⟨w.heap.size, 0, none⟩) [e] := by
  have h := EX.start w e t
  refine ⟨fun j x hj => ⟨_, rfl, ?_⟩⟩
  match j, hj with
  | 0, hj =>
    obtain rfl := Option.some.inj hj
    have ha : (⟨w.heap.size, 0, none⟩ : Addr).add (0 * 6) = ⟨w.heap.size, 0, none⟩ := by unfold Addr.add; split <;> simp_all
    rw [ha]
    exact ⟨h.lt, h.c0, h.c1, h.c2, h.c3, h.c4, h.c5⟩
theorem validX_c (w : World) (hk : KTab w) : Calls Tryd.prog 11 #[.agg #[.int .i64 4, .int .i64 7, .int .i64 1, .int .i64 0, .int .i16 (-3), .int .i64 0]] w fun r w' => r = .returned (.bool true) ∧ Below w.heap.size w w' := by rw [← validX]; exact valid_c evX inX w hk
theorem formatX_c (A : Option Addr) (cap : Nat) (w : World) (hr : Rdy w) (C : Evs w A [evX]) : Calls Tryd.prog 13 #[.slice A 1 cap] w fun e w' => e = .returned (.string ⟨#[55, 32, 114, 101, 97, 100, 32, 49, 32, 48, 32, 45, 51, 10]⟩) ∧ Below w.heap.size w w' :=
  (format_c [evX] (by simp) (fun e he => by rw [List.mem_singleton.1 he]; exact inX) A cap w hr C).mono fun _ _ ⟨he, hb⟩ => ⟨by
    rw [he]
    refine ret_str ?_
    unfold fmtL
    rw [if_pos (by simp [validX]), txt_one]
    rfl, hb⟩
theorem equalX_c (A B : Option Addr) (ca cb : Nat) (w : World) (hA : Evs w A [evX]) (hB : Evs w B [evX]) : Calls Tryd.prog 24 #[.slice A 1 ca, .slice B 1 cb] w fun e w' => e = .returned (.bool true) ∧ Below w.heap.size w w' := by
  have h := equal_c [evX] [evX] (by simp) (by simp) A B ca cb w hA hB
  rw [eqL_yes rfl] at h
  exact h
theorem parseX_c (w : World) (hr : Rdy w) : Calls Tryd.prog 15 #[.string ⟨#[55, 32, 114, 101, 97, 100, 32, 49, 32, 48, 32, 45, 51, 10]⟩] w fun e w' => ∃ ad cap, e = .returned (.tuple #[.slice (some ad) 1 cap, .int .i64 0, .int .i64 0]) ∧ Evs w' (some ad) [evX] ∧ Below w.heap.size w w' :=
  (parse_c ⟨txtX.toArray⟩ (by decide) w hr).mono fun e w' h => by
    obtain ⟨l, rest, hs, hv, hc, hb⟩ := h
    have hs' : txt [evX] ++ [] = txt l ++ rest := by rw [← hs, List.append_nil, txt_one]
    obtain ⟨rfl, rfl⟩ := txt_uniq [evX] l [] rest vldX hv hs' (.inl rfl) (by
      rcases hc with ⟨h, _⟩ | ⟨_, h, _⟩
      · exact .inl h
      · exact .inr h)
    rcases hc with ⟨_, A, cap, he, hE⟩ | ⟨h, _⟩
    · obtain ⟨ad, rfl, _⟩ := hE.at_ 0 evX rfl
      exact ⟨ad, cap, he, hE, hb⟩
    · exact absurd rfl h
structure AK (w : World) (ad : Addr) (W : World) : Prop where
  below : Below w.heap.size w W
  e : EX w.heap.size evX W
  evs : Evs W (some ad) [evX]
theorem AK.next {w W W' : World} {ad : Addr} (h : AK w ad W) (hb : Below W.heap.size W W') : AK w ad W' := ⟨bt h.below hb, h.e.next hb, h.evs.next hb⟩
theorem AK.a {w W : World} {ad : Addr} (h : AK w ad W) : EvA W ad evX := by
  obtain ⟨ad', he, hA⟩ := h.evs.at_ 0 evX rfl
  cases he
  rwa [Nat.zero_mul, Addr.add_zero'] at hA
structure AKC (w : World) (ad : Addr) (W : World) : Prop where
  x0 : W.cell? ⟨w.heap.size, 0, none⟩ = some (.int .i64 4)
  x1 : W.cell? ⟨w.heap.size, 1, none⟩ = some (.int .i64 7)
  x2 : W.cell? ⟨w.heap.size, 2, none⟩ = some (.int .i64 1)
  x3 : W.cell? ⟨w.heap.size, 3, none⟩ = some (.int .i64 0)
  x4 : W.cell? ⟨w.heap.size, 4, none⟩ = some (.int .i16 (-3))
  x5 : W.cell? ⟨w.heap.size, 5, none⟩ = some (.int .i64 0)
  a0 : W.cell? ad = some (.int .i64 4)
  a1 : W.cell? ⟨ad.block, ad.off + 1, none⟩ = some (.int .i64 7)
  a2 : W.cell? ⟨ad.block, ad.off + 2, none⟩ = some (.int .i64 1)
  a3 : W.cell? ⟨ad.block, ad.off + 3, none⟩ = some (.int .i64 0)
  a4 : W.cell? ⟨ad.block, ad.off + 4, none⟩ = some (.int .i16 (-3))
  a5 : W.cell? ⟨ad.block, ad.off + 5, none⟩ = some (.int .i64 0)
theorem AK.cs {w W : World} {ad : Addr} (h : AK w ad W) : AKC w ad W :=
  ⟨h.e.c0, h.e.c1, h.e.c2, h.e.c3, h.e.c4, h.e.c5, h.a.c0, h.a.c1, h.a.c2, h.a.c3, h.a.c4, h.a.c5⟩
theorem EvsX.one (w : World) (t : TypeId) : Evs (w.alloc (.cells #[.int .i64 4, .int .i64 7, .int .i64 1, .int .i64 0, .int .i16 (-3), .int .i64 0] t)) (some ⟨w.heap.size, 0, none⟩) [evX] := Evs.one w evX t
set_option maxRecDepth 100000 in
set_option maxHeartbeats 4000000 in
theorem awake_c (w : World) (hr : Rdy w) : Calls Tryd.prog 10 #[] w fun e w' => e = .returned (.bool true) ∧ Below w.heap.size w w' := by
  have H0 := Lib.hid (And.intro (ba w (.cells #[.int .i64 4, .int .i64 7, .int .i64 1, .int .i64 0, .int .i16 (-3), .int .i64 0] 26)) (show EX w.heap.size evX (w.alloc (.cells #[.int .i64 4, .int .i64 7, .int .i64 1, .int .i64 0, .int .i16 (-3), .int .i64 0] 26)) from EX.start w evX 26))
  have HRD := Lib.hid (fun W (hb : Below w.heap.size w W) => hr.next hb)
  go_enter Tryd.func10, Tryd.ntmps10
  go_wp2_with fail
  refine (parseX_c _ (hr.next H0.out.1)).mono ?_
  rintro e w1 ⟨ad, cap, rfl, hE, hb1⟩
  have K : AK w ad w1 := ⟨bt H0.out.1 hb1, H0.out.2.next hb1, hE⟩
  clear hE hb1 H0
  go_wp2_with fail
  replace K := K.next (World.drewB _)
  go_region_held3 (fun w' => w'.cell? ⟨w.heap.size, 0, none⟩ = some (.int .i64 4) ∧ w'.cell? ⟨w.heap.size, 1, none⟩ = some (.int .i64 7) ∧ w'.cell? ⟨w.heap.size, 2, none⟩ = some (.int .i64 1) ∧ w'.cell? ⟨w.heap.size, 3, none⟩ = some (.int .i64 0) ∧ w'.cell? ⟨w.heap.size, 4, none⟩ = some (.int .i16 (-3)) ∧ w'.cell? ⟨w.heap.size, 5, none⟩ = some (.int .i64 0) ∧ w'.cell? ad = some (.int .i64 4) ∧ w'.cell? ⟨ad.block, ad.off + 1, none⟩ = some (.int .i64 7) ∧ w'.cell? ⟨ad.block, ad.off + 2, none⟩ = some (.int .i64 1) ∧ w'.cell? ⟨ad.block, ad.off + 3, none⟩ = some (.int .i64 0) ∧ w'.cell? ⟨ad.block, ad.off + 4, none⟩ = some (.int .i16 (-3)) ∧ w'.cell? ⟨ad.block, ad.off + 5, none⟩ = some (.int .i64 0)) (first | exact ⟨K.cs.x0, K.cs.x1, K.cs.x2, K.cs.x3, K.cs.x4, K.cs.x5, K.cs.a0, K.cs.a1, K.cs.a2, K.cs.a3, K.cs.a4, K.cs.a5⟩ | (replace K := K.next (ba _ _); exact ⟨K.cs.x0, K.cs.x1, K.cs.x2, K.cs.x3, K.cs.x4, K.cs.x5, K.cs.a0, K.cs.a1, K.cs.a2, K.cs.a3, K.cs.a4, K.cs.a5⟩) | go_keep)
    (first
      | (go_at_call 11; (with_reducible refine (validX_c _ (HRD.out _ K.below).k).mono ?_); rintro r w7 ⟨rfl, hb7⟩; replace K := K.next hb7)
      | (go_at_call 13; (with_reducible refine (formatX_c _ _ _ (HRD.out _ (K.next (ba _ _)).below) (EvsX.one _ _)).mono ?_); rintro r w8 ⟨rfl, hb8⟩; replace K := (K.next (ba _ _)).next hb8)
      | (go_at_call 24; (with_reducible refine (equalX_c _ _ _ _ _ (K.next (ba _ _)).evs (EvsX.one _ _)).mono ?_); rintro r w9 ⟨rfl, hb9⟩; replace K := (K.next (ba _ _)).next hb9))
  all_goals
    go_wp2_with fail
    go_ret
    exact ⟨rfl, K.below⟩
end Go.Proofs.YtdfconiahfdhbaaDoor
