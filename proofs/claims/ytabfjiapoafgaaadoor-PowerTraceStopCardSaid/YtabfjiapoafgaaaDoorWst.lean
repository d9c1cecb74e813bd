/-
  PowerTraceStop.
-/
import Derived.Test.YtabfjiapoafgaaaDoorWall
import Derived.Test.YtabfjiapoafgaaaDoorRlo
namespace Go.Proofs.YtabfjiapoafgaaaDoor
open Go.RowKit
set_option linter.unusedVariables false
attribute [local go_sem ↓] Go.wp_at_zero Go.wp_at_succ

/-- rows as long as these, whatever their numbers, all below B -/
structure Inr (b : Nat) (vs : List Value) (Ls : List (List (Int × Int))) (B : Nat) (W : World) : Prop where
  row : ∀ (j : Nat) x r, vs[j]? = some x → Ls[j]? = some r → ∃ l' : List (Int × Int), l'.length = r.length ∧ W.ownsRow b 38 2 x r.length (flat l')
  lt : ∀ x ∈ vs, ∀ g, x.ownBlock = some g → g < B
theorem Inr.of {b : Nat} {vs : List Value} {Ls : List (List (Int × Int))} {B : Nat} {W : World} (h : Fin2 b vs Ls B W) : Inr b vs Ls B W := ⟨fun j x r h1 h2 => ⟨r, rfl, h.row j x r h1 h2⟩, h.lt⟩
theorem Inr.next {b : Nat} {vs : List Value} {Ls : List (List (Int × Int))} {B : Nat} {W W' : World} (h : Inr b vs Ls B W) (hb : Below W.heap.size W W') : Inr b vs Ls B W' :=
  ⟨fun j x r h1 h2 => by
    obtain ⟨l', e, ho⟩ := h.row j x r h1 h2
    exact ⟨l', e, owns_below ho hb⟩, h.lt⟩
/-- a row's value -/
theorem own_shape {W : World} {b e s n g : Nat} {v : Value} {xs : List Value} (h : W.ownsRow b e s v n xs) (hg : v.ownBlock = some g) : ∃ cap, v = .slice (some ⟨g, 0, none⟩) n cap := by
  rcases h.2 with ⟨rfl, _⟩ | ⟨g', cap, cur, rfl, _⟩
  · simp [Value.ownBlock] at hg
  · obtain rfl : g' = g := by simpa [Value.ownBlock] using hg
    exact ⟨cap, rfl⟩
theorem Inr.store {b : Nat} {vs : List Value} {Ls : List (List (Int × Int))} {B : Nat} {W : World} (h : Inr b vs Ls B W) (g i : Nat) (z : Int) : Inr b vs Ls B (W.setCell ⟨g, i * 2, none⟩ (.int .i64 z)) :=
  ⟨fun j x r h1 h2 => by
    obtain ⟨l', e, ho⟩ := h.row j x r h1 h2
    by_cases hg : x.ownBlock = some g
    · obtain ⟨cap, rfl⟩ := own_shape ho hg
      have hs := (World.ownsRow.stored ho (i * 2) (.int .i64 z)).1
      by_cases hi : i < l'.length
      · rw [flat_set l' i l'[i] z (List.getElem?_eq_getElem hi)] at hs
        exact ⟨_, by rw [List.length_set]; exact e, hs⟩
      · rw [List.set_eq_of_length_le (by rw [flat_len]; omega)] at hs
        exact ⟨l', e, hs⟩
    · exact ⟨l', e, owns_set' ho hg _⟩, h.lt⟩
/-- the rows that are written to, and the rows that are not -/
structure SJ (w : World) (b B B2 : Nat) (v : Value) (vs : List Value) (Ls : List (List (Int × Int))) (v2 : Value) (vs2 : List Value) (W : World) : Prop where
  below : Below w.heap.size w W
  wb : w.heap.size ≤ b
  len : vs.length = Ls.length
  out : W.ownsRow b 22 1 v vs.length vs
  inr : Inr b vs Ls B W
  out2 : W.ownsRow B 22 1 v2 vs2.length vs2
  fin2 : Fin2 B vs2 Ls B2 W
/-- a cell of an owned row -/
theorem own_at {W : World} {b e n cap m : Nat} {A : Option Addr} {xs : List Value} (h : W.ownsRow b e 1 (.slice A m cap) n xs) {j : Nat} {x : Value} (hx : xs[j]? = some x) : ∃ ad, A = some ad ∧ (ad.add j).block < W.heap.size ∧ W.cell? (ad.add j) = some x := by
  have H := h
  have hj := (List.getElem?_eq_some_iff.1 hx).1
  have hl := h.1
  rcases h.2 with ⟨_, hn⟩ | ⟨g, cap', cur, hv, _, hh, _⟩
  · exfalso
    rw [hl, hn] at hj
    omega
  · cases hv
    have hc := H.cells (g := g) rfl j x hx
    refine ⟨_, rfl, ?_, hc⟩
    rw [block_of_add]
    exact (Array.getElem?_eq_some_iff.1 hh).1
section
variable {w W W' : World} {b B B2 : Nat} {v v2 : Value} {vs vs2 : List Value} {Ls : List (List (Int × Int))}
theorem SJ.value (h : SJ w b B B2 v vs Ls v2 vs2 W) {j : Nat} {x : Value} {r : List (Int × Int)} (hx : vs[j]? = some x) (hr : Ls[j]? = some r) : ∃ A cap, x = .slice A r.length cap := by
  obtain ⟨l', e, ho⟩ := h.inr.row j x r hx hr
  rcases ho.2 with ⟨rfl, hn⟩ | ⟨g', cap, cur, rfl, _⟩
  · exact ⟨none, 0, by rw [hn]⟩
  · exact ⟨_, cap, rfl⟩
theorem SJ.cell (h : SJ w b B B2 v vs Ls v2 vs2 W) {j i : Nat} {A : Option Addr} {cap : Nat} {r : List (Int × Int)} (hx : vs[j]? = some (.slice A r.length cap)) (hr : Ls[j]? = some r) (hi : i < r.length) :
    ∃ (g : Nat) (z : Int), A = some ⟨g, 0, none⟩ ∧ g < W.heap.size ∧ W.cell? ⟨g, i * 2, none⟩ = some (.int .i64 z) ∧ W.frozen? ⟨g, i * 2, none⟩ = false ∧ ∀ u : Int, SJ w b B B2 v vs Ls v2 vs2 (W.setCell ⟨g, i * 2, none⟩ (.int .i64 u)) := by
  obtain ⟨l', e, ho⟩ := h.inr.row j _ r hx hr
  have H := ho
  have hln := ho.1
  rcases ho.2 with ⟨hv, hn⟩ | ⟨g, cap', cur, hv, hg, hh, _⟩
  · exfalso
    omega
  · cases hv
    have hil : i < l'.length := by omega
    have hgB := h.inr.lt _ (List.mem_of_getElem? hx) g rfl
    have hc := World.ownsRow.cellAt H (i * 2) (by omega)
    rw [(flat_at l' i _ (List.getElem?_eq_getElem hil)).1] at hc
    refine ⟨g, _, rfl, (Array.getElem?_eq_some_iff.1 hh).1, hc, World.ownsRow.frozenAt H _, fun u => ?_⟩
    have hwb := h.wb
    refine ⟨h.below.setCell (by simp only; omega) _, h.wb, h.len, owns_set' (p := ⟨g, i * 2, none⟩) h.out (owns_ne H h.out (by decide) rfl) _, h.inr.store g i u, owns_set' h.out2 (fun q => ?_) _, h.fin2.set (fun x hx q => ?_) _⟩
    · have := (h.out2.lt _ q).1
      simp only at this
      omega
    · obtain ⟨j', r', _, _, hr'⟩ := h.fin2.at_ hx
      have := (hr'.lt _ q).1
      simp only at this
      omega
end
set_option maxRecDepth 100000 in
set_option maxHeartbeats 4000000 in
theorem powerTraceStop_w (f m n : Int) (hf : B64 f) (hm : B64 m) (hn0 : 0 ≤ n) (hn1 : n ≤ 255) (w : World) (hr : Ready w) : Calls Tryd.prog 9 #[.int .i64 f, .int .i64 m, .int .u8 n] w fun e w' => e = .returned (.bool true) ∧ Below w.heap.size w w' := by
  have HR := Lib.hid hr
  go_enter Tryd.func9, Tryd.ntmps9
  go_wp2_with fail
  refine (examples_c _ hr).mono ?_
  rintro e w1 ⟨rfl, hb1⟩
  have HB1 := Lib.hid hb1
  clear hb1 hr
  by_cases h40 : 20 < f
  · go_wp2_with fail
    refine (examples_c _ (HR.out.below HB1.out)).mono ?_
    rintro e w2 ⟨rfl, hb2⟩
    go_wp2_with fail
    go_ret
    exact ⟨rfl, bt HB1.out hb2⟩
  · obtain ⟨lim, hlim⟩ : ∃ lim : Nat, n % 40 + 1 = (lim : Int) := ⟨(n % 40 + 1).toNat, by omega⟩
    have hl1 : 1 ≤ lim := by omega
    have hl2 : lim ≤ 40 := by omega
    have HFA := Lib.hid (fun W => first_any f m 2 lim (by omega) hl1 (by omega) W)
    have HRA := Lib.hid (fun W => rall_own f m 2 lim (by omega) (by omega) W)
    have HFR := Lib.hid (fun W => first_r f m 2 lim (by omega) hl1 (by omega) W)
    rw [← hlim] at HFA HRA HFR
    have hol := outN_le f m 2 lim
    clear hlim
    go_wp2_with fail
    refine (HFA.out _).mono ?_
    rintro e w2 ⟨v, vs, Ls, rfl, hown, hfin, hfl, hb2⟩
    have hll : Ls.length ≤ 40 := by have := hfl.len; omega
    have hllI : (Ls.length : Int) ≤ 40 := by omega
    clear hol
    obtain ⟨A, cap, rfl, -⟩ := Rws.of_own hown hfin
    have HB2 := Lib.hid (bt HB1.out hb2)
    have HO := Lib.hid (And.intro hown hfin)
    have HFL := Lib.hid hfl
    clear hb2 hown hfin hfl
    go_wp2_with fail
    refine (HRA.out _).mono ?_
    rintro e w3 ⟨v2, vs2, Ls2, rfl, hown2, hfin2, hfl2, hb3⟩
    obtain rfl := HFL.out.uniq hfl2
    obtain ⟨A3, cap3, rfl, -⟩ := Rws.of_own hown2 hfin2
    have K0 : SJ w w1.heap.size w2.heap.size w3.heap.size (.slice A Ls.length cap) vs Ls (.slice A3 Ls.length cap3) vs2 w3 := ⟨bt HB2.out hb3, HB1.out.size, HO.out.2.len, owns_below HO.out.1 hb3, Inr.of (HO.out.2.next hb3), hown2, hfin2⟩
    have HK0 := Lib.hid K0
    clear hb3 hown2 hfin2 hfl2 K0
    go_wp2_with fail
    go_loopw [50] (fun i wr => ∃ j : Nat, j ≤ Ls.length ∧ i = .int .i64 j ∧ SJ w w1.heap.size w2.heap.size w3.heap.size (.slice A Ls.length cap) vs Ls (.slice A3 Ls.length cap3) vs2 wr) (fun i _ => Ls.length - (intOf i).toNat)
    case atStart => exact ⟨0, by omega, rfl, HK0.out⟩
    case round =>
      obtain ⟨j, hj, rfl, K⟩ := hrel
      have HK := Lib.hid K
      by_cases hlt : j < Ls.length
      · have hjv : j < vs.length := by rw [K.len]; exact hlt
        have hx := List.getElem?_eq_getElem hlt
        have hxv := List.getElem?_eq_getElem hjv
        obtain ⟨ad, rfl, lad, cad⟩ := own_at K.out hxv
        obtain ⟨D, k, hD⟩ := K.value hxv hx
        rw [hD] at hxv cad
        have hrs := HFL.out.short hx
        have hol := outN_le f m 2 lim
        have hrl : Ls[j].length ≤ 40 := by omega
        generalize Ls[j] = r at *
        have hjI : (j : Int) < (Ls.length : Int) := by omega
        have hj0 : (0 : Int) ≤ (j : Int) := by omega
        have HX := Lib.hid (And.intro hxv hx)
        clear K hD hx hxv hrs hol hjv
        go_wp2_with fail
        go_loopw [56] (fun i wr => ∃ q : Nat, q ≤ r.length ∧ i = .int .i64 q ∧ SJ w w1.heap.size w2.heap.size w3.heap.size (.slice (some ad) Ls.length cap) vs Ls (.slice A3 Ls.length cap3) vs2 wr) (fun i _ => r.length - (intOf i).toNat)
        case atStart => exact ⟨0, by omega, rfl, HK.out⟩
        case round =>
          obtain ⟨q, hq, rfl, K2⟩ := hrel
          have HK2 := Lib.hid K2
          by_cases hql : q < r.length
          · obtain ⟨g, z, rfl, hg, c0, f0, hst⟩ := K2.cell HX.out.1 HX.out.2 hql
            have HST := Lib.hid hst
            have hqI : (q : Int) < (r.length : Int) := by omega
            have hq0 : (0 : Int) ≤ (q : Int) := by omega
            clear K2 hst
            go_wp2_with fail
            case roundEnd =>
              refine ⟨⟨q + 1, by omega, by rw [Int.natCast_add]; rfl, HST.out _⟩, ?_⟩
              show r.length - ((q : Int) + 1).toNat < r.length - ((q : Int)).toNat
              omega
          · obtain rfl : q = r.length := by omega
            clear K2
            go_wp2_with fail
            go_roundw
            case rel => exact ⟨j + 1, by omega, by go_num, HK2.out⟩
            case measure => simp [intOf]; omega
      · obtain rfl : j = Ls.length := by omega
        clear K
        go_wp2_with fail
        refine (HFR.out _).mono ?_
        rintro e w4 ⟨A4, cap4, Ls4, rfl, R4, hfl4, hb4⟩
        obtain rfl := HFL.out.uniq hfl4
        obtain ⟨A3', cap3', e3, R3⟩ := Rws.of_own HK.out.out2 HK.out.fin2
        obtain ⟨rfl, -, rfl⟩ := Value.slice.inj e3
        have HB4 := Lib.hid (bt HK.out.below hb4)
        have HR3 := Lib.hid (R3.next hb4)
        have HR4 := Lib.hid R4
        clear hb4 R4 hfl4 R3 e3 HK HK0
        go_wp2_with fail
        go_loopw [87] (fun i wr => ∃ j : Nat, j ≤ Ls.length ∧ i = .int .i64 j ∧ Below w.heap.size w wr ∧ Rws wr A4 Ls ∧ Rws wr A3 Ls) (fun i _ => Ls.length - (intOf i).toNat)
        case atStart => exact ⟨0, by omega, rfl, HB4.out, HR4.out, HR3.out⟩
        case round =>
          obtain ⟨j, hj, rfl, hb, C2, C3⟩ := hrel
          have HB := Lib.hid hb
          by_cases hlt : j < Ls.length
          · have hx := List.getElem?_eq_getElem hlt
            have hsh := HFL.out.short hx
            have hol := outN_le f m 2 lim
            obtain ⟨ad2, D2, k2, rfl, l2, c2, E2⟩ := C2.at_ j _ hx
            obtain ⟨ad3, D3, k3, rfl, l3, c3, E3⟩ := C3.at_ j _ hx
            generalize Ls[j] = r at *
            have hjI : (j : Int) < (Ls.length : Int) := by omega
            have hj0 : (0 : Int) ≤ (j : Int) := by omega
            have HSM := Lib.hid (fun W h1 h2 => same_r r (by omega) D2 D3 k2 k3 W h1 h2)
            have K : BS w Ls ad2 ad3 j r.length D2 D3 k2 k3 r wr := ⟨HB.out, l2, l3, C2, C3, c2, c3, E2, E3⟩
            replace K := K.next wr.drewB
            clear C2 C3 hb hx E2 E3 hsh hol
            go_wp2_with fail
            go_region_held3 (fun w' => w'.cell? (ad2.add j) = some (.slice D2 r.length k2) ∧ w'.cell? (ad3.add j) = some (.slice D3 r.length k3) ∧ BS w Ls ad2 ad3 j r.length D2 D3 k2 k3 r w') (first | exact ⟨K.ca, K.cb, K⟩ | go_keep)
              (first | (go_at_call 18; (with_reducible refine (HSM.out _ K.pa K.pb).mono ?_); rintro e w1 ⟨rfl, hb1⟩; replace K := K.next hb1))
            all_goals
              go_wp2_with fail
              go_roundw
              case rel => exact ⟨j + 1, by omega, by go_num, K.below, K.ra, K.rb⟩
              case measure => simp [intOf]; omega
          · obtain rfl : j = Ls.length := by omega
            go_wp2_with fail
            go_ret
            exact ⟨rfl, HB.out⟩
end Go.Proofs.YtabfjiapoafgaaaDoor
