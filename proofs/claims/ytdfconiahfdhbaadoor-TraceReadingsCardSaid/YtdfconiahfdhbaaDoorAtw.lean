/-
  Attempts, by trace.
-/
import Derived.Test.YtdfconiahfdhbaaDoorAtm
import Derived.Deep.CutRange
import Derived.Deep.CutBlock
import Derived.Deep.DeepCutAuto
import Derived.Deep.RegionWith
namespace Go.Proofs.YtdfconiahfdhbaaDoor
open Go.RowKit
attribute [local go_sem ↓] Go.wp_at_zero Go.wp_at_succ

def GivesA (l : List At) (w : World) (e : Ending) (w' : World) : Prop := ∃ A cap, e = .returned (.slice A l.length cap) ∧ Atts w' A l ∧ Below w.heap.size w w' ∧ ∀ ad, A = some ad → w.heap.size ≤ ad.block
theorem not_beg {e : Ev} (h : begE e = false) : actE e = false ∧ ¬ e.kind = 5 := by
  unfold begE comK at h
  simp at h
  exact h
theorem beg_or {e : Ev} (h : begE e = true) : actE e = true ∨ (actE e = false ∧ e.kind = 5) := by
  unfold begE comK at h
  simp at h
  cases ha : actE e
  · rw [ha] at h; simp at h; exact .inr ⟨rfl, h⟩
  · exact .inl rfl
set_option maxRecDepth 100000 in
set_option maxHeartbeats 4000000 in
theorem attempts_c (l : List Ev) (hl : l.length ≤ 80) (A : Option Addr) (cap : Nat) (w : World) (C : Evs w A l) : Calls Tryd.prog 20 #[.slice A l.length cap] w (GivesA (atsL l 0) w) := by
  obtain ⟨i48, hti, hz0, hz1, hz2⟩ := info_parts info48
  have HC := Lib.hid C
  have hl3 : (l.length : Int) ≤ 80 := by omega
  clear C
  go_enter Tryd.func20, Tryd.ntmps20
  go_wp2_with fail
  go_loopw [3, 4] (fun s3 s4 wr => ∃ (i : Nat) (o : List At), i ≤ l.length ∧ s4 = .int .i64 i ∧ o ++ atsL l i = atsL l 0 ∧ o.length ≤ i ∧ Below w.heap.size w wr ∧ wr.ownsRow w.heap.size 48 4 s3 o.length (flatA o)) (fun _ s4 _ => l.length - (intOf s4).toNat)
  case atStart => exact ⟨0, [], by omega, rfl, rfl, by simp, Below.refl _ _, World.ownsRow_nil _ _ _ _⟩
  case round =>
    obtain ⟨i, o, hi, rfl, ho, hol, hb, hown⟩ := hrel
    have HO := Lib.hid ho
    have HB := Lib.hid hb
    clear ho
    by_cases hlt : i < l.length
    · have HE := Lib.hid (List.getElem?_eq_getElem hlt)
      obtain ⟨ad, rfl, EA⟩ := (HC.out.next hb).at_ i _ HE.out
      generalize l[i] = e at *
      cases hbe : begE e
      · obtain ⟨ha, hk⟩ := not_beg hbe
        have HS := Lib.hid (atsL_skip HE.out hbe)
        have HA := Lib.hid ha
        have HEA := Lib.hid EA
        obtain ⟨_, c0, c1, c2, c3, c4, c5⟩ := EA
        have hk1 : (e.kind == 5) = false := by simpa using hk
        have hk2 : (e.kind != 5) = true := by simpa using hk
        clear hbe ha hb
        go_wp2_with fail
        refine (act_c e _ HA.out).mono ?_
        rintro r w1 ⟨rfl, hb1⟩
        clear c0 c1 c2 c3 c4 c5
        obtain ⟨_, c0, c1, c2, c3, c4, c5⟩ := HEA.out.next hb1
        have HB1 := Lib.hid hb1
        clear hb1
        go_wp2_with fail
        go_roundw
        case rel => exact ⟨i + 1, o, by omega, by go_num, by rw [← HS.out]; exact HO.out, by omega, bt HB.out HB1.out, owns_below hown HB1.out⟩
        case measure => simp [intOf]; omega
      · have HBE := Lib.hid hbe
        have HEA := Lib.hid EA
        have HT := Lib.hid (show o.length ≤ 80 from by omega)
        obtain ⟨_, c0, c1, c2, c3, c4, c5⟩ := EA
        rcases beg_or hbe with ha | ⟨ha, hk⟩
        all_goals
          have HA := Lib.hid ha
          clear hbe ha hb
          try have hk1 : (e.kind == 5) = true := by simpa using hk
          try have hk2 : (e.kind != 5) = false := by simpa using hk
          try clear hk
          go_wp2_with fail
          refine (act_c e _ HA.out).mono ?_
          rintro r w1 ⟨rfl, hb1⟩
          clear c0 c1 c2 c3 c4 c5
          obtain ⟨_, c0, c1, c2, c3, c4, c5⟩ := HEA.out.next hb1
          have HB1 := Lib.hid hb1
          clear hb1
          go_upto_block 2 with fail
          have hne : u3.ownBlock ≠ some w1.heap.size := fun q => by have := (hown.lt _ q).2; have := HB1.out.size; omega
          have HS0 := Lib.hid (show AS w 48 o u3 w1.heap.size i 0 e.task false (w1.alloc (.cells #[.int .i64 i, .int .i64 0, .int .i64 e.task, .bool false] 48)) from ⟨bt (bt HB.out HB1.out) (ba _ _), owns_below hown (bt HB1.out (ba _ _)), by have := HB.out.size; have := HB1.out.size; omega, hne, AX.new _ _ _ _ _ _⟩)
          generalize w1.heap.size = X at *
          generalize hW0 : w1.alloc (.cells #[.int .i64 i, .int .i64 0, .int .i64 e.task, .bool false] 48) = W0 at *
          clear c0 c1 c2 c3 c4 c5 hne
          go_cut [4] from 6 to 89 (fun s4 wx => ∃ k : Nat, s4 = .int .i64 k ∧ IsEnd l e.task i k ∧ AS w 48 o u3 X i 0 e.task false wx)
          case first =>
            go_wp2_with fail
            go_loopw [4] (fun s4 wx => ∃ k : Nat, i ≤ k ∧ k ≤ l.length ∧ s4 = .int .i64 k ∧ (∀ m, i ≤ m → m < k → goesA l e.task m = true) ∧ AS w 48 o u3 X i 0 e.task false wx) (fun s4 _ => l.length - (intOf s4).toNat)
            case atStart => exact ⟨i, by omega, by omega, rfl, fun m h1 h2 => by omega, HS0.out⟩
            case round =>
              obtain ⟨k, hik, hkl, rfl, hgo, K⟩ := hrel
              have HGO := Lib.hid hgo
              by_cases hlt2 : k < l.length
              · have HX := Lib.hid (List.getElem?_eq_getElem hlt2)
                obtain ⟨ad', q, EK⟩ := (HC.out.next K.below).at_ k _ HX.out
                cases q
                generalize l[k] = x at *
                replace K := K.next (World.drewB _)
                replace EK := EK.next (World.drewB _)
                clear hgo
                have HXE := Lib.hid (goes_at (t := e.task) HX.out)
                cases hax : actE x
                · have HAX := Lib.hid hax
                  have HOFF := Lib.hid (show goesA l e.task k = false from by rw [HXE.out, hax]; rfl)
                  clear hax
                  go_wp2_with fail
                  refine wp_region_held_drew (S := (fun w' => w'.cell? (ad.add (k * 6)) = some (.int .i64 x.kind) ∧ w'.cell? ⟨(ad.add (k * 6)).block, (ad.add (k * 6)).off + 1, none⟩ = some (.int .i64 x.time) ∧ w'.cell? ⟨(ad.add (k * 6)).block, (ad.add (k * 6)).off + 2, none⟩ = some (.int .i64 x.task) ∧ w'.cell? ⟨(ad.add (k * 6)).block, (ad.add (k * 6)).off + 3, none⟩ = some (.int .i64 x.n) ∧ w'.cell? ⟨(ad.add (k * 6)).block, (ad.add (k * 6)).off + 4, none⟩ = some (.int .i16 x.value) ∧ w'.cell? ⟨(ad.add (k * 6)).block, (ad.add (k * 6)).off + 5, none⟩ = some (.int .i64 x.port) ∧ w'.cell? ⟨X, 2, none⟩ = some (.int .i64 e.task))) (by kernel_rfl) ?_ (fun hHeld => ?_)
                  · exact ⟨EK.c0, EK.c1, EK.c2, EK.c3, EK.c4, EK.c5, K.ax.c2⟩
                  change wpAnyH _ _ _ _ _ 21 #[false, false, false, false, false, false, false, false, false, false, false, false, false, false, false, false, false, false, false, false, false] _ _
                  refine wpAnyH_take (i := 0) (oi := ⟨some 33, _, _, _, _, _⟩) (v := ?_) rfl (by kernel_rfl) (by kernel_rfl) (by kernel_rfl) (fun _ _ _ h => h) (Or.inl ⟨by rfl, ?_⟩) (by assumption) ?_
                  rotate_left
                  · first | (intro w hSw; (try dsimp only at hSw); go_simp; done) | (intro w hSw; (try dsimp only at hSw); go_simp; with_reducible rfl)
                  try simp only [Act.put, List.setIfInBounds_toArray, List.set_cons_zero, List.set_cons_succ]
                  refine wpAnyH_take (i := 1) (oi := ⟨some 34, _, _, _, _, _⟩) (v := ?_) rfl (by kernel_rfl) (by kernel_rfl) (by kernel_rfl) (fun _ _ _ h => h) (Or.inl ⟨by rfl, ?_⟩) (by assumption) ?_
                  rotate_left
                  · first | (intro w hSw; (try dsimp only at hSw); go_simp; done) | (intro w hSw; (try dsimp only at hSw); go_simp; with_reducible rfl)
                  try simp only [Act.put, List.setIfInBounds_toArray, List.set_cons_zero, List.set_cons_succ]
                  refine wpAnyH_take (i := 2) (oi := ⟨some 35, _, _, _, _, _⟩) (v := ?_) rfl (by kernel_rfl) (by kernel_rfl) (by kernel_rfl) (fun _ _ _ h => h) (Or.inl ⟨by rfl, ?_⟩) (by assumption) ?_
                  rotate_left
                  · first | (intro w hSw; (try dsimp only at hSw); go_simp; done) | (intro w hSw; (try dsimp only at hSw); go_simp; with_reducible rfl)
                  try simp only [Act.put, List.setIfInBounds_toArray, List.set_cons_zero, List.set_cons_succ]
                  refine wpAnyH_take (i := 3) (oi := ⟨some 36, _, _, _, _, _⟩) (v := ?_) rfl (by kernel_rfl) (by kernel_rfl) (by kernel_rfl) (fun _ _ _ h => h) (Or.inl ⟨by rfl, ?_⟩) (by assumption) ?_
                  rotate_left
                  · first | (intro w hSw; (try dsimp only at hSw); go_simp; done) | (intro w hSw; (try dsimp only at hSw); go_simp; with_reducible rfl)
                  try simp only [Act.put, List.setIfInBounds_toArray, List.set_cons_zero, List.set_cons_succ]
                  refine wpAnyH_take (i := 4) (oi := ⟨some 37, _, _, _, _, _⟩) (v := ?_) rfl (by kernel_rfl) (by kernel_rfl) (by kernel_rfl) (fun _ _ _ h => h) (Or.inl ⟨by rfl, ?_⟩) (by assumption) ?_
                  rotate_left
                  · first | (intro w hSw; (try dsimp only at hSw); go_simp; done) | (intro w hSw; (try dsimp only at hSw); go_simp; with_reducible rfl)
                  try simp only [Act.put, List.setIfInBounds_toArray, List.set_cons_zero, List.set_cons_succ]
                  refine wpAnyH_take (i := 5) (oi := ⟨some 38, _, _, _, _, _⟩) (v := ?_) rfl (by kernel_rfl) (by kernel_rfl) (by kernel_rfl) (fun _ _ _ h => h) (Or.inl ⟨by rfl, ?_⟩) (by assumption) ?_
                  rotate_left
                  · first | (intro w hSw; (try dsimp only at hSw); go_simp; done) | (intro w hSw; (try dsimp only at hSw); go_simp; with_reducible rfl)
                  try simp only [Act.put, List.setIfInBounds_toArray, List.set_cons_zero, List.set_cons_succ]
                  refine wpAnyH_take (i := 6) (oi := ⟨some 39, _, _, _, _, _⟩) (v := ?_) rfl (by kernel_rfl) (by kernel_rfl) (by kernel_rfl) (fun _ _ _ h => h) (Or.inl ⟨by rfl, ?_⟩) (by assumption) ?_
                  rotate_left
                  · first | (intro w hSw; (try dsimp only at hSw); go_simp; done) | (intro w hSw; (try dsimp only at hSw); go_simp; with_reducible rfl)
                  try simp only [Act.put, List.setIfInBounds_toArray, List.set_cons_zero, List.set_cons_succ]
                  refine wpAnyH_take (i := 7) (oi := ⟨some 40, _, _, _, _, _⟩) (v := ?_) rfl (by kernel_rfl) (by kernel_rfl) (by kernel_rfl) (fun _ _ _ h => h) (Or.inl ⟨by rfl, ?_⟩) (by assumption) ?_
                  rotate_left
                  · first | (intro w hSw; (try dsimp only at hSw); go_simp; done) | (intro w hSw; (try dsimp only at hSw); go_simp; with_reducible rfl)
                  try simp only [Act.put, List.setIfInBounds_toArray, List.set_cons_zero, List.set_cons_succ]
                  refine wpAnyH_take (i := 8) (oi := ⟨some 41, _, _, _, _, _⟩) (v := ?_) rfl (by kernel_rfl) (by kernel_rfl) (by kernel_rfl) (fun _ _ _ h => h) (Or.inl ⟨by rfl, ?_⟩) (by assumption) ?_
                  rotate_left
                  · first | (intro w hSw; (try dsimp only at hSw); go_simp; done) | (intro w hSw; (try dsimp only at hSw); go_simp; with_reducible rfl)
                  try simp only [Act.put, List.setIfInBounds_toArray, List.set_cons_zero, List.set_cons_succ]
                  refine wpAnyH_ready (rs := [9]) (by kernel_rfl) (by simp) (AllReadyH.cons (o := ⟨some 42, _, _, _, _, _⟩) rfl (fun KX hKX => ?_) AllReadyH.nil)
                  go_simp
                  (with_reducible refine (act_c x _ HAX.out).mono ?_); rintro r w7 ⟨rfl, hb7⟩; replace K := K.next hb7; replace EK := EK.next hb7; go_wp2_with fail
                  refine hKX.out _ _ ?_ (fun hHeld => ?_)
                  · exact ⟨EK.c0, EK.c1, EK.c2, EK.c3, EK.c4, EK.c5, K.ax.c2⟩
                  clear hKX KX
                  try simp only [List.setIfInBounds_toArray, List.set_cons_zero, List.set_cons_succ]
                  refine wpAnyH_take (i := 10) (oi := ⟨some 43, _, _, _, _, _⟩) (v := ?_) rfl (by kernel_rfl) (by kernel_rfl) (by kernel_rfl) (fun _ _ _ h => h) (Or.inl ⟨by rfl, ?_⟩) (by assumption) ?_
                  rotate_left
                  · first | (intro w hSw; (try dsimp only at hSw); go_simp; done) | (intro w hSw; (try dsimp only at hSw); go_simp; with_reducible rfl)
                  try simp only [Act.put, List.setIfInBounds_toArray, List.set_cons_zero, List.set_cons_succ]
                  refine wpAnyH_take (i := 11) (oi := ⟨some 44, _, _, _, _, _⟩) (v := ?_) rfl (by kernel_rfl) (by kernel_rfl) (by kernel_rfl) (fun _ _ _ h => h) (Or.inl ⟨by rfl, ?_⟩) (by assumption) ?_
                  rotate_left
                  · first | (intro w hSw; (try dsimp only at hSw); go_simp; done) | (intro w hSw; (try dsimp only at hSw); go_simp; with_reducible rfl)
                  try simp only [Act.put, List.setIfInBounds_toArray, List.set_cons_zero, List.set_cons_succ]
                  refine wpAnyH_take (i := 12) (oi := ⟨some 45, _, _, _, _, _⟩) (v := undef) rfl (by kernel_rfl) (by kernel_rfl) (by kernel_rfl) (fun _ _ _ h => h) (Or.inr ⟨by rfl, rfl⟩) (by assumption) ?_
                  try simp only [Act.put, List.setIfInBounds_toArray, List.set_cons_zero, List.set_cons_succ]
                  refine wpAnyH_take (i := 13) (oi := ⟨some 46, _, _, _, _, _⟩) (v := undef) rfl (by kernel_rfl) (by kernel_rfl) (by kernel_rfl) (fun _ _ _ h => h) (Or.inr ⟨by rfl, rfl⟩) (by assumption) ?_
                  try simp only [Act.put, List.setIfInBounds_toArray, List.set_cons_zero, List.set_cons_succ]
                  refine wpAnyH_take (i := 14) (oi := ⟨some 47, _, _, _, _, _⟩) (v := undef) rfl (by kernel_rfl) (by kernel_rfl) (by kernel_rfl) (fun _ _ _ h => h) (Or.inr ⟨by rfl, rfl⟩) (by assumption) ?_
                  try simp only [Act.put, List.setIfInBounds_toArray, List.set_cons_zero, List.set_cons_succ]
                  refine wpAnyH_take (i := 15) (oi := ⟨some 48, _, _, _, _, _⟩) (v := undef) rfl (by kernel_rfl) (by kernel_rfl) (by kernel_rfl) (fun _ _ _ h => h) (Or.inr ⟨by rfl, rfl⟩) (by assumption) ?_
                  try simp only [Act.put, List.setIfInBounds_toArray, List.set_cons_zero, List.set_cons_succ]
                  refine wpAnyH_take (i := 16) (oi := ⟨some 49, _, _, _, _, _⟩) (v := undef) rfl (by kernel_rfl) (by kernel_rfl) (by kernel_rfl) (fun _ _ _ h => h) (Or.inr ⟨by rfl, rfl⟩) (by assumption) ?_
                  try simp only [Act.put, List.setIfInBounds_toArray, List.set_cons_zero, List.set_cons_succ]
                  refine wpAnyH_take (i := 17) (oi := ⟨some 50, _, _, _, _, _⟩) (v := undef) rfl (by kernel_rfl) (by kernel_rfl) (by kernel_rfl) (fun _ _ _ h => h) (Or.inr ⟨by rfl, rfl⟩) (by assumption) ?_
                  try simp only [Act.put, List.setIfInBounds_toArray, List.set_cons_zero, List.set_cons_succ]
                  refine wpAnyH_take (i := 18) (oi := ⟨some 51, _, _, _, _, _⟩) (v := undef) rfl (by kernel_rfl) (by kernel_rfl) (by kernel_rfl) (fun _ _ _ h => h) (Or.inr ⟨by rfl, rfl⟩) (by assumption) ?_
                  try simp only [Act.put, List.setIfInBounds_toArray, List.set_cons_zero, List.set_cons_succ]
                  refine wpAnyH_take (i := 19) (oi := ⟨some 52, _, _, _, _, _⟩) (v := undef) rfl (by kernel_rfl) (by kernel_rfl) (by kernel_rfl) (fun _ _ _ h => h) (Or.inr ⟨by rfl, rfl⟩) (by assumption) ?_
                  try simp only [Act.put, List.setIfInBounds_toArray, List.set_cons_zero, List.set_cons_succ]
                  refine wpAnyH_take (i := 20) (oi := ⟨some 53, _, _, _, _, _⟩) (v := ?_) rfl (by kernel_rfl) (by kernel_rfl) (by kernel_rfl) (fun _ _ _ h => h) (Or.inl ⟨by rfl, ?_⟩) (by assumption) ?_
                  rotate_left
                  · first | (intro w hSw; (try dsimp only at hSw); go_simp; done) | (intro w hSw; (try dsimp only at hSw); go_simp; with_reducible rfl)
                  try simp only [Act.put, List.setIfInBounds_toArray, List.set_cons_zero, List.set_cons_succ]
                  refine wpAnyH_done (by kernel_rfl) ?_ _
                  go_wp2_with fail
                  go_meet
                  exact ⟨k, rfl, ⟨hik, HGO.out, HOFF.out⟩, K⟩
                · have HAX := Lib.hid hax
                  by_cases htk : x.task = e.task
                  · have HON := Lib.hid (show goesA l e.task k = true from by rw [HXE.out, hax, htk]; simp)
                    have ht1 : (x.task == e.task) = true := by simpa using htk
                    clear hax htk
                    go_wp2_with fail
                    refine wp_region_held_drew (S := (fun w' => w'.cell? (ad.add (k * 6)) = some (.int .i64 x.kind) ∧ w'.cell? ⟨(ad.add (k * 6)).block, (ad.add (k * 6)).off + 1, none⟩ = some (.int .i64 x.time) ∧ w'.cell? ⟨(ad.add (k * 6)).block, (ad.add (k * 6)).off + 2, none⟩ = some (.int .i64 x.task) ∧ w'.cell? ⟨(ad.add (k * 6)).block, (ad.add (k * 6)).off + 3, none⟩ = some (.int .i64 x.n) ∧ w'.cell? ⟨(ad.add (k * 6)).block, (ad.add (k * 6)).off + 4, none⟩ = some (.int .i16 x.value) ∧ w'.cell? ⟨(ad.add (k * 6)).block, (ad.add (k * 6)).off + 5, none⟩ = some (.int .i64 x.port) ∧ w'.cell? ⟨X, 2, none⟩ = some (.int .i64 e.task))) (by kernel_rfl) ?_ (fun hHeld => ?_)
                    · exact ⟨EK.c0, EK.c1, EK.c2, EK.c3, EK.c4, EK.c5, K.ax.c2⟩
                    change wpAnyH _ _ _ _ _ 21 #[false, false, false, false, false, false, false, false, false, false, false, false, false, false, false, false, false, false, false, false, false] _ _
                    refine wpAnyH_take (i := 0) (oi := ⟨some 33, _, _, _, _, _⟩) (v := ?_) rfl (by kernel_rfl) (by kernel_rfl) (by kernel_rfl) (fun _ _ _ h => h) (Or.inl ⟨by rfl, ?_⟩) (by assumption) ?_
                    rotate_left
                    · first | (intro w hSw; (try dsimp only at hSw); go_simp; done) | (intro w hSw; (try dsimp only at hSw); go_simp; with_reducible rfl)
                    try simp only [Act.put, List.setIfInBounds_toArray, List.set_cons_zero, List.set_cons_succ]
                    refine wpAnyH_take (i := 1) (oi := ⟨some 34, _, _, _, _, _⟩) (v := ?_) rfl (by kernel_rfl) (by kernel_rfl) (by kernel_rfl) (fun _ _ _ h => h) (Or.inl ⟨by rfl, ?_⟩) (by assumption) ?_
                    rotate_left
                    · first | (intro w hSw; (try dsimp only at hSw); go_simp; done) | (intro w hSw; (try dsimp only at hSw); go_simp; with_reducible rfl)
                    try simp only [Act.put, List.setIfInBounds_toArray, List.set_cons_zero, List.set_cons_succ]
                    refine wpAnyH_take (i := 2) (oi := ⟨some 35, _, _, _, _, _⟩) (v := ?_) rfl (by kernel_rfl) (by kernel_rfl) (by kernel_rfl) (fun _ _ _ h => h) (Or.inl ⟨by rfl, ?_⟩) (by assumption) ?_
                    rotate_left
                    · first | (intro w hSw; (try dsimp only at hSw); go_simp; done) | (intro w hSw; (try dsimp only at hSw); go_simp; with_reducible rfl)
                    try simp only [Act.put, List.setIfInBounds_toArray, List.set_cons_zero, List.set_cons_succ]
                    refine wpAnyH_take (i := 3) (oi := ⟨some 36, _, _, _, _, _⟩) (v := ?_) rfl (by kernel_rfl) (by kernel_rfl) (by kernel_rfl) (fun _ _ _ h => h) (Or.inl ⟨by rfl, ?_⟩) (by assumption) ?_
                    rotate_left
                    · first | (intro w hSw; (try dsimp only at hSw); go_simp; done) | (intro w hSw; (try dsimp only at hSw); go_simp; with_reducible rfl)
                    try simp only [Act.put, List.setIfInBounds_toArray, List.set_cons_zero, List.set_cons_succ]
                    refine wpAnyH_take (i := 4) (oi := ⟨some 37, _, _, _, _, _⟩) (v := ?_) rfl (by kernel_rfl) (by kernel_rfl) (by kernel_rfl) (fun _ _ _ h => h) (Or.inl ⟨by rfl, ?_⟩) (by assumption) ?_
                    rotate_left
                    · first | (intro w hSw; (try dsimp only at hSw); go_simp; done) | (intro w hSw; (try dsimp only at hSw); go_simp; with_reducible rfl)
                    try simp only [Act.put, List.setIfInBounds_toArray, List.set_cons_zero, List.set_cons_succ]
                    refine wpAnyH_take (i := 5) (oi := ⟨some 38, _, _, _, _, _⟩) (v := ?_) rfl (by kernel_rfl) (by kernel_rfl) (by kernel_rfl) (fun _ _ _ h => h) (Or.inl ⟨by rfl, ?_⟩) (by assumption) ?_
                    rotate_left
                    · first | (intro w hSw; (try dsimp only at hSw); go_simp; done) | (intro w hSw; (try dsimp only at hSw); go_simp; with_reducible rfl)
                    try simp only [Act.put, List.setIfInBounds_toArray, List.set_cons_zero, List.set_cons_succ]
                    refine wpAnyH_take (i := 6) (oi := ⟨some 39, _, _, _, _, _⟩) (v := ?_) rfl (by kernel_rfl) (by kernel_rfl) (by kernel_rfl) (fun _ _ _ h => h) (Or.inl ⟨by rfl, ?_⟩) (by assumption) ?_
                    rotate_left
                    · first | (intro w hSw; (try dsimp only at hSw); go_simp; done) | (intro w hSw; (try dsimp only at hSw); go_simp; with_reducible rfl)
                    try simp only [Act.put, List.setIfInBounds_toArray, List.set_cons_zero, List.set_cons_succ]
                    refine wpAnyH_take (i := 7) (oi := ⟨some 40, _, _, _, _, _⟩) (v := ?_) rfl (by kernel_rfl) (by kernel_rfl) (by kernel_rfl) (fun _ _ _ h => h) (Or.inl ⟨by rfl, ?_⟩) (by assumption) ?_
                    rotate_left
                    · first | (intro w hSw; (try dsimp only at hSw); go_simp; done) | (intro w hSw; (try dsimp only at hSw); go_simp; with_reducible rfl)
                    try simp only [Act.put, List.setIfInBounds_toArray, List.set_cons_zero, List.set_cons_succ]
                    refine wpAnyH_take (i := 8) (oi := ⟨some 41, _, _, _, _, _⟩) (v := ?_) rfl (by kernel_rfl) (by kernel_rfl) (by kernel_rfl) (fun _ _ _ h => h) (Or.inl ⟨by rfl, ?_⟩) (by assumption) ?_
                    rotate_left
                    · first | (intro w hSw; (try dsimp only at hSw); go_simp; done) | (intro w hSw; (try dsimp only at hSw); go_simp; with_reducible rfl)
                    try simp only [Act.put, List.setIfInBounds_toArray, List.set_cons_zero, List.set_cons_succ]
                    refine wpAnyH_ready (rs := [9]) (by kernel_rfl) (by simp) (AllReadyH.cons (o := ⟨some 42, _, _, _, _, _⟩) rfl (fun KX hKX => ?_) AllReadyH.nil)
                    go_simp
                    (with_reducible refine (act_c x _ HAX.out).mono ?_); rintro r w7 ⟨rfl, hb7⟩; replace K := K.next hb7; replace EK := EK.next hb7; go_wp2_with fail
                    refine hKX.out _ _ ?_ (fun hHeld => ?_)
                    · exact ⟨EK.c0, EK.c1, EK.c2, EK.c3, EK.c4, EK.c5, K.ax.c2⟩
                    clear hKX KX
                    try simp only [List.setIfInBounds_toArray, List.set_cons_zero, List.set_cons_succ]
                    refine wpAnyH_take (i := 10) (oi := ⟨some 43, _, _, _, _, _⟩) (v := ?_) rfl (by kernel_rfl) (by kernel_rfl) (by kernel_rfl) (fun _ _ _ h => h) (Or.inl ⟨by rfl, ?_⟩) (by assumption) ?_
                    rotate_left
                    · first | (intro w hSw; (try dsimp only at hSw); go_simp; done) | (intro w hSw; (try dsimp only at hSw); go_simp; with_reducible rfl)
                    try simp only [Act.put, List.setIfInBounds_toArray, List.set_cons_zero, List.set_cons_succ]
                    refine wpAnyH_take (i := 11) (oi := ⟨some 44, _, _, _, _, _⟩) (v := ?_) rfl (by kernel_rfl) (by kernel_rfl) (by kernel_rfl) (fun _ _ _ h => h) (Or.inl ⟨by rfl, ?_⟩) (by assumption) ?_
                    rotate_left
                    · first | (intro w hSw; (try dsimp only at hSw); go_simp; done) | (intro w hSw; (try dsimp only at hSw); go_simp; with_reducible rfl)
                    try simp only [Act.put, List.setIfInBounds_toArray, List.set_cons_zero, List.set_cons_succ]
                    refine wpAnyH_take (i := 12) (oi := ⟨some 45, _, _, _, _, _⟩) (v := ?_) rfl (by kernel_rfl) (by kernel_rfl) (by kernel_rfl) (fun _ _ _ h => h) (Or.inl ⟨by rfl, ?_⟩) (by assumption) ?_
                    rotate_left
                    · first | (intro w hSw; (try dsimp only at hSw); go_simp; done) | (intro w hSw; (try dsimp only at hSw); go_simp; with_reducible rfl)
                    try simp only [Act.put, List.setIfInBounds_toArray, List.set_cons_zero, List.set_cons_succ]
                    refine wpAnyH_take (i := 13) (oi := ⟨some 46, _, _, _, _, _⟩) (v := ?_) rfl (by kernel_rfl) (by kernel_rfl) (by kernel_rfl) (fun _ _ _ h => h) (Or.inl ⟨by rfl, ?_⟩) (by assumption) ?_
                    rotate_left
                    · first | (intro w hSw; (try dsimp only at hSw); go_simp; done) | (intro w hSw; (try dsimp only at hSw); go_simp; with_reducible rfl)
                    try simp only [Act.put, List.setIfInBounds_toArray, List.set_cons_zero, List.set_cons_succ]
                    refine wpAnyH_take (i := 14) (oi := ⟨some 47, _, _, _, _, _⟩) (v := ?_) rfl (by kernel_rfl) (by kernel_rfl) (by kernel_rfl) (fun _ _ _ h => h) (Or.inl ⟨by rfl, ?_⟩) (by assumption) ?_
                    rotate_left
                    · first | (intro w hSw; (try dsimp only at hSw); go_simp; done) | (intro w hSw; (try dsimp only at hSw); go_simp; with_reducible rfl)
                    try simp only [Act.put, List.setIfInBounds_toArray, List.set_cons_zero, List.set_cons_succ]
                    refine wpAnyH_take (i := 15) (oi := ⟨some 48, _, _, _, _, _⟩) (v := ?_) rfl (by kernel_rfl) (by kernel_rfl) (by kernel_rfl) (fun _ _ _ h => h) (Or.inl ⟨by rfl, ?_⟩) (by assumption) ?_
                    rotate_left
                    · first | (intro w hSw; (try dsimp only at hSw); go_simp; done) | (intro w hSw; (try dsimp only at hSw); go_simp; with_reducible rfl)
                    try simp only [Act.put, List.setIfInBounds_toArray, List.set_cons_zero, List.set_cons_succ]
                    refine wpAnyH_take (i := 16) (oi := ⟨some 49, _, _, _, _, _⟩) (v := ?_) rfl (by kernel_rfl) (by kernel_rfl) (by kernel_rfl) (fun _ _ _ h => h) (Or.inl ⟨by rfl, ?_⟩) (by assumption) ?_
                    rotate_left
                    · first | (intro w hSw; (try dsimp only at hSw); go_simp; done) | (intro w hSw; (try dsimp only at hSw); go_simp; with_reducible rfl)
                    try simp only [Act.put, List.setIfInBounds_toArray, List.set_cons_zero, List.set_cons_succ]
                    refine wpAnyH_take (i := 17) (oi := ⟨some 50, _, _, _, _, _⟩) (v := ?_) rfl (by kernel_rfl) (by kernel_rfl) (by kernel_rfl) (fun _ _ _ h => h) (Or.inl ⟨by rfl, ?_⟩) (by assumption) ?_
                    rotate_left
                    · first | (intro w hSw; (try dsimp only at hSw); go_simp; done) | (intro w hSw; (try dsimp only at hSw); go_simp; with_reducible rfl)
                    try simp only [Act.put, List.setIfInBounds_toArray, List.set_cons_zero, List.set_cons_succ]
                    refine wpAnyH_take (i := 18) (oi := ⟨some 51, _, _, _, _, _⟩) (v := ?_) rfl (by kernel_rfl) (by kernel_rfl) (by kernel_rfl) (fun _ _ _ h => h) (Or.inl ⟨by rfl, ?_⟩) (by assumption) ?_
                    rotate_left
                    · first | (intro w hSw; (try dsimp only at hSw); go_simp; done) | (intro w hSw; (try dsimp only at hSw); go_simp; with_reducible rfl)
                    try simp only [Act.put, List.setIfInBounds_toArray, List.set_cons_zero, List.set_cons_succ]
                    refine wpAnyH_take (i := 19) (oi := ⟨some 52, _, _, _, _, _⟩) (v := ?_) rfl (by kernel_rfl) (by kernel_rfl) (by kernel_rfl) (fun _ _ _ h => h) (Or.inl ⟨by rfl, ?_⟩) (by assumption) ?_
                    rotate_left
                    · first | (intro w hSw; (try dsimp only at hSw); go_simp; done) | (intro w hSw; (try dsimp only at hSw); go_simp; with_reducible rfl)
                    try simp only [Act.put, List.setIfInBounds_toArray, List.set_cons_zero, List.set_cons_succ]
                    refine wpAnyH_take (i := 20) (oi := ⟨some 53, _, _, _, _, _⟩) (v := ?_) rfl (by kernel_rfl) (by kernel_rfl) (by kernel_rfl) (fun _ _ _ h => h) (Or.inl ⟨by rfl, ?_⟩) (by assumption) ?_
                    rotate_left
                    · first | (intro w hSw; (try dsimp only at hSw); go_simp; done) | (intro w hSw; (try dsimp only at hSw); go_simp; with_reducible rfl)
                    try simp only [Act.put, List.setIfInBounds_toArray, List.set_cons_zero, List.set_cons_succ]
                    refine wpAnyH_done (by kernel_rfl) ?_ _
                    go_wp2_with fail
                    go_roundw
                    case rel => exact ⟨k + 1, by omega, by omega, by go_num, fun m h1 h2 => by
                      by_cases q : m = k
                      · subst q; exact HON.out
                      · exact HGO.out m h1 (by omega), K⟩
                    case measure => simp [intOf]; omega
                  · have HOFF := Lib.hid (show goesA l e.task k = false from by rw [HXE.out, hax]; simp [htk])
                    have ht1 : (x.task == e.task) = false := by simpa using htk
                    clear hax htk
                    go_wp2_with fail
                    refine wp_region_held_drew (S := (fun w' => w'.cell? (ad.add (k * 6)) = some (.int .i64 x.kind) ∧ w'.cell? ⟨(ad.add (k * 6)).block, (ad.add (k * 6)).off + 1, none⟩ = some (.int .i64 x.time) ∧ w'.cell? ⟨(ad.add (k * 6)).block, (ad.add (k * 6)).off + 2, none⟩ = some (.int .i64 x.task) ∧ w'.cell? ⟨(ad.add (k * 6)).block, (ad.add (k * 6)).off + 3, none⟩ = some (.int .i64 x.n) ∧ w'.cell? ⟨(ad.add (k * 6)).block, (ad.add (k * 6)).off + 4, none⟩ = some (.int .i16 x.value) ∧ w'.cell? ⟨(ad.add (k * 6)).block, (ad.add (k * 6)).off + 5, none⟩ = some (.int .i64 x.port) ∧ w'.cell? ⟨X, 2, none⟩ = some (.int .i64 e.task))) (by kernel_rfl) ?_ (fun hHeld => ?_)
                    · exact ⟨EK.c0, EK.c1, EK.c2, EK.c3, EK.c4, EK.c5, K.ax.c2⟩
                    change wpAnyH _ _ _ _ _ 21 #[false, false, false, false, false, false, false, false, false, false, false, false, false, false, false, false, false, false, false, false, false] _ _
                    refine wpAnyH_take (i := 0) (oi := ⟨some 33, _, _, _, _, _⟩) (v := ?_) rfl (by kernel_rfl) (by kernel_rfl) (by kernel_rfl) (fun _ _ _ h => h) (Or.inl ⟨by rfl, ?_⟩) (by assumption) ?_
                    rotate_left
                    · first | (intro w hSw; (try dsimp only at hSw); go_simp; done) | (intro w hSw; (try dsimp only at hSw); go_simp; with_reducible rfl)
                    try simp only [Act.put, List.setIfInBounds_toArray, List.set_cons_zero, List.set_cons_succ]
                    refine wpAnyH_take (i := 1) (oi := ⟨some 34, _, _, _, _, _⟩) (v := ?_) rfl (by kernel_rfl) (by kernel_rfl) (by kernel_rfl) (fun _ _ _ h => h) (Or.inl ⟨by rfl, ?_⟩) (by assumption) ?_
                    rotate_left
                    · first | (intro w hSw; (try dsimp only at hSw); go_simp; done) | (intro w hSw; (try dsimp only at hSw); go_simp; with_reducible rfl)
                    try simp only [Act.put, List.setIfInBounds_toArray, List.set_cons_zero, List.set_cons_succ]
                    refine wpAnyH_take (i := 2) (oi := ⟨some 35, _, _, _, _, _⟩) (v := ?_) rfl (by kernel_rfl) (by kernel_rfl) (by kernel_rfl) (fun _ _ _ h => h) (Or.inl ⟨by rfl, ?_⟩) (by assumption) ?_
                    rotate_left
                    · first | (intro w hSw; (try dsimp only at hSw); go_simp; done) | (intro w hSw; (try dsimp only at hSw); go_simp; with_reducible rfl)
                    try simp only [Act.put, List.setIfInBounds_toArray, List.set_cons_zero, List.set_cons_succ]
                    refine wpAnyH_take (i := 3) (oi := ⟨some 36, _, _, _, _, _⟩) (v := ?_) rfl (by kernel_rfl) (by kernel_rfl) (by kernel_rfl) (fun _ _ _ h => h) (Or.inl ⟨by rfl, ?_⟩) (by assumption) ?_
                    rotate_left
                    · first | (intro w hSw; (try dsimp only at hSw); go_simp; done) | (intro w hSw; (try dsimp only at hSw); go_simp; with_reducible rfl)
                    try simp only [Act.put, List.setIfInBounds_toArray, List.set_cons_zero, List.set_cons_succ]
                    refine wpAnyH_take (i := 4) (oi := ⟨some 37, _, _, _, _, _⟩) (v := ?_) rfl (by kernel_rfl) (by kernel_rfl) (by kernel_rfl) (fun _ _ _ h => h) (Or.inl ⟨by rfl, ?_⟩) (by assumption) ?_
                    rotate_left
                    · first | (intro w hSw; (try dsimp only at hSw); go_simp; done) | (intro w hSw; (try dsimp only at hSw); go_simp; with_reducible rfl)
                    try simp only [Act.put, List.setIfInBounds_toArray, List.set_cons_zero, List.set_cons_succ]
                    refine wpAnyH_take (i := 5) (oi := ⟨some 38, _, _, _, _, _⟩) (v := ?_) rfl (by kernel_rfl) (by kernel_rfl) (by kernel_rfl) (fun _ _ _ h => h) (Or.inl ⟨by rfl, ?_⟩) (by assumption) ?_
                    rotate_left
                    · first | (intro w hSw; (try dsimp only at hSw); go_simp; done) | (intro w hSw; (try dsimp only at hSw); go_simp; with_reducible rfl)
                    try simp only [Act.put, List.setIfInBounds_toArray, List.set_cons_zero, List.set_cons_succ]
                    refine wpAnyH_take (i := 6) (oi := ⟨some 39, _, _, _, _, _⟩) (v := ?_) rfl (by kernel_rfl) (by kernel_rfl) (by kernel_rfl) (fun _ _ _ h => h) (Or.inl ⟨by rfl, ?_⟩) (by assumption) ?_
                    rotate_left
                    · first | (intro w hSw; (try dsimp only at hSw); go_simp; done) | (intro w hSw; (try dsimp only at hSw); go_simp; with_reducible rfl)
                    try simp only [Act.put, List.setIfInBounds_toArray, List.set_cons_zero, List.set_cons_succ]
                    refine wpAnyH_take (i := 7) (oi := ⟨some 40, _, _, _, _, _⟩) (v := ?_) rfl (by kernel_rfl) (by kernel_rfl) (by kernel_rfl) (fun _ _ _ h => h) (Or.inl ⟨by rfl, ?_⟩) (by assumption) ?_
                    rotate_left
                    · first | (intro w hSw; (try dsimp only at hSw); go_simp; done) | (intro w hSw; (try dsimp only at hSw); go_simp; with_reducible rfl)
                    try simp only [Act.put, List.setIfInBounds_toArray, List.set_cons_zero, List.set_cons_succ]
                    refine wpAnyH_take (i := 8) (oi := ⟨some 41, _, _, _, _, _⟩) (v := ?_) rfl (by kernel_rfl) (by kernel_rfl) (by kernel_rfl) (fun _ _ _ h => h) (Or.inl ⟨by rfl, ?_⟩) (by assumption) ?_
                    rotate_left
                    · first | (intro w hSw; (try dsimp only at hSw); go_simp; done) | (intro w hSw; (try dsimp only at hSw); go_simp; with_reducible rfl)
                    try simp only [Act.put, List.setIfInBounds_toArray, List.set_cons_zero, List.set_cons_succ]
                    refine wpAnyH_ready (rs := [9]) (by kernel_rfl) (by simp) (AllReadyH.cons (o := ⟨some 42, _, _, _, _, _⟩) rfl (fun KX hKX => ?_) AllReadyH.nil)
                    go_simp
                    (with_reducible refine (act_c x _ HAX.out).mono ?_); rintro r w7 ⟨rfl, hb7⟩; replace K := K.next hb7; replace EK := EK.next hb7; go_wp2_with fail
                    refine hKX.out _ _ ?_ (fun hHeld => ?_)
                    · exact ⟨EK.c0, EK.c1, EK.c2, EK.c3, EK.c4, EK.c5, K.ax.c2⟩
                    clear hKX KX
                    try simp only [List.setIfInBounds_toArray, List.set_cons_zero, List.set_cons_succ]
                    refine wpAnyH_take (i := 10) (oi := ⟨some 43, _, _, _, _, _⟩) (v := ?_) rfl (by kernel_rfl) (by kernel_rfl) (by kernel_rfl) (fun _ _ _ h => h) (Or.inl ⟨by rfl, ?_⟩) (by assumption) ?_
                    rotate_left
                    · first | (intro w hSw; (try dsimp only at hSw); go_simp; done) | (intro w hSw; (try dsimp only at hSw); go_simp; with_reducible rfl)
                    try simp only [Act.put, List.setIfInBounds_toArray, List.set_cons_zero, List.set_cons_succ]
                    refine wpAnyH_take (i := 11) (oi := ⟨some 44, _, _, _, _, _⟩) (v := ?_) rfl (by kernel_rfl) (by kernel_rfl) (by kernel_rfl) (fun _ _ _ h => h) (Or.inl ⟨by rfl, ?_⟩) (by assumption) ?_
                    rotate_left
                    · first | (intro w hSw; (try dsimp only at hSw); go_simp; done) | (intro w hSw; (try dsimp only at hSw); go_simp; with_reducible rfl)
                    try simp only [Act.put, List.setIfInBounds_toArray, List.set_cons_zero, List.set_cons_succ]
                    refine wpAnyH_take (i := 12) (oi := ⟨some 45, _, _, _, _, _⟩) (v := ?_) rfl (by kernel_rfl) (by kernel_rfl) (by kernel_rfl) (fun _ _ _ h => h) (Or.inl ⟨by rfl, ?_⟩) (by assumption) ?_
                    rotate_left
                    · first | (intro w hSw; (try dsimp only at hSw); go_simp; done) | (intro w hSw; (try dsimp only at hSw); go_simp; with_reducible rfl)
                    try simp only [Act.put, List.setIfInBounds_toArray, List.set_cons_zero, List.set_cons_succ]
                    refine wpAnyH_take (i := 13) (oi := ⟨some 46, _, _, _, _, _⟩) (v := ?_) rfl (by kernel_rfl) (by kernel_rfl) (by kernel_rfl) (fun _ _ _ h => h) (Or.inl ⟨by rfl, ?_⟩) (by assumption) ?_
                    rotate_left
                    · first | (intro w hSw; (try dsimp only at hSw); go_simp; done) | (intro w hSw; (try dsimp only at hSw); go_simp; with_reducible rfl)
                    try simp only [Act.put, List.setIfInBounds_toArray, List.set_cons_zero, List.set_cons_succ]
                    refine wpAnyH_take (i := 14) (oi := ⟨some 47, _, _, _, _, _⟩) (v := ?_) rfl (by kernel_rfl) (by kernel_rfl) (by kernel_rfl) (fun _ _ _ h => h) (Or.inl ⟨by rfl, ?_⟩) (by assumption) ?_
                    rotate_left
                    · first | (intro w hSw; (try dsimp only at hSw); go_simp; done) | (intro w hSw; (try dsimp only at hSw); go_simp; with_reducible rfl)
                    try simp only [Act.put, List.setIfInBounds_toArray, List.set_cons_zero, List.set_cons_succ]
                    refine wpAnyH_take (i := 15) (oi := ⟨some 48, _, _, _, _, _⟩) (v := ?_) rfl (by kernel_rfl) (by kernel_rfl) (by kernel_rfl) (fun _ _ _ h => h) (Or.inl ⟨by rfl, ?_⟩) (by assumption) ?_
                    rotate_left
                    · first | (intro w hSw; (try dsimp only at hSw); go_simp; done) | (intro w hSw; (try dsimp only at hSw); go_simp; with_reducible rfl)
                    try simp only [Act.put, List.setIfInBounds_toArray, List.set_cons_zero, List.set_cons_succ]
                    refine wpAnyH_take (i := 16) (oi := ⟨some 49, _, _, _, _, _⟩) (v := ?_) rfl (by kernel_rfl) (by kernel_rfl) (by kernel_rfl) (fun _ _ _ h => h) (Or.inl ⟨by rfl, ?_⟩) (by assumption) ?_
                    rotate_left
                    · first | (intro w hSw; (try dsimp only at hSw); go_simp; done) | (intro w hSw; (try dsimp only at hSw); go_simp; with_reducible rfl)
                    try simp only [Act.put, List.setIfInBounds_toArray, List.set_cons_zero, List.set_cons_succ]
                    refine wpAnyH_take (i := 17) (oi := ⟨some 50, _, _, _, _, _⟩) (v := ?_) rfl (by kernel_rfl) (by kernel_rfl) (by kernel_rfl) (fun _ _ _ h => h) (Or.inl ⟨by rfl, ?_⟩) (by assumption) ?_
                    rotate_left
                    · first | (intro w hSw; (try dsimp only at hSw); go_simp; done) | (intro w hSw; (try dsimp only at hSw); go_simp; with_reducible rfl)
                    try simp only [Act.put, List.setIfInBounds_toArray, List.set_cons_zero, List.set_cons_succ]
                    refine wpAnyH_take (i := 18) (oi := ⟨some 51, _, _, _, _, _⟩) (v := ?_) rfl (by kernel_rfl) (by kernel_rfl) (by kernel_rfl) (fun _ _ _ h => h) (Or.inl ⟨by rfl, ?_⟩) (by assumption) ?_
                    rotate_left
                    · first | (intro w hSw; (try dsimp only at hSw); go_simp; done) | (intro w hSw; (try dsimp only at hSw); go_simp; with_reducible rfl)
                    try simp only [Act.put, List.setIfInBounds_toArray, List.set_cons_zero, List.set_cons_succ]
                    refine wpAnyH_take (i := 19) (oi := ⟨some 52, _, _, _, _, _⟩) (v := ?_) rfl (by kernel_rfl) (by kernel_rfl) (by kernel_rfl) (fun _ _ _ h => h) (Or.inl ⟨by rfl, ?_⟩) (by assumption) ?_
                    rotate_left
                    · first | (intro w hSw; (try dsimp only at hSw); go_simp; done) | (intro w hSw; (try dsimp only at hSw); go_simp; with_reducible rfl)
                    try simp only [Act.put, List.setIfInBounds_toArray, List.set_cons_zero, List.set_cons_succ]
                    refine wpAnyH_take (i := 20) (oi := ⟨some 53, _, _, _, _, _⟩) (v := ?_) rfl (by kernel_rfl) (by kernel_rfl) (by kernel_rfl) (fun _ _ _ h => h) (Or.inl ⟨by rfl, ?_⟩) (by assumption) ?_
                    rotate_left
                    · first | (intro w hSw; (try dsimp only at hSw); go_simp; done) | (intro w hSw; (try dsimp only at hSw); go_simp; with_reducible rfl)
                    try simp only [Act.put, List.setIfInBounds_toArray, List.set_cons_zero, List.set_cons_succ]
                    refine wpAnyH_done (by kernel_rfl) ?_ _
                    go_wp2_with fail
                    go_meet
                    exact ⟨k, rfl, ⟨hik, HGO.out, HOFF.out⟩, K⟩
              · obtain rfl : k = l.length := by omega
                have HOFF := Lib.hid (goes_none (l := l) (t := e.task) (Nat.le_refl l.length))
                clear hgo
                go_wp2_with fail
                go_quiet (fail)
                go_wp2_with fail
                go_meet
                exact ⟨l.length, rfl, ⟨hik, HGO.out, HOFF.out⟩, K.next (below_drewN _ _)⟩
          case rest =>
            obtain ⟨k, rfl, hend, K⟩ := hcut
            have hkl := isEnd_le hend (by omega)
            have HEND := Lib.hid hend
            obtain ⟨c, hc⟩ : ∃ c, comA l e.task k = c := ⟨_, rfl⟩
            have HCM := Lib.hid hc
            clear hend hc
            have HKC := Lib.hid (K.setC c)
            go_upto_region 9 with fail
            go_cut [] from 6 to 89 (fun wx => AS w 48 o u3 X i 0 e.task c wx)
            case first =>
              by_cases hlt2 : k < l.length
              · have HX := Lib.hid (List.getElem?_eq_getElem hlt2)
                obtain ⟨ad', q, EK⟩ := (HC.out.next K.below).at_ k _ HX.out
                cases q
                generalize l[k] = x at *
                have hcm := HCM.out
                rw [com_at HX.out] at hcm
                obtain ⟨_, _, _, _, _, x0, x1, x2, x3, xf⟩ := K
                have xf3 := xf 3
                obtain ⟨_, d0, d1, d2, d3, d4, d5⟩ := EK
                by_cases hx5 : x.kind = 5
                · by_cases htk : x.task = e.task
                  · obtain rfl : true = c := by rw [← hcm]; simp [comK, hx5, htk]
                    have q1 : (x.kind == 5) = true := by simpa using hx5
                    have q2 : (x.task == e.task) = true := by simpa using htk
                    clear hcm hx5 htk xf
                    go_wp2_with fail
                    go_region
                    go_wp2_with fail
                    go_meet
                    exact HKC.out.next (World.drewB _)
                  · obtain rfl : false = c := by rw [← hcm]; simp [htk]
                    have q1 : (x.kind == 5) = true := by simpa using hx5
                    have q2 : (x.task == e.task) = false := by simpa using htk
                    clear hcm hx5 htk xf
                    go_wp2_with fail
                    go_region
                    go_wp2_with fail
                    go_meet
                    exact HKC.out.next (World.drewB _)
                · obtain rfl : false = c := by rw [← hcm]; simp [comK, hx5]
                  have q1 : (x.kind == 5) = false := by simpa using hx5
                  clear hcm hx5 xf
                  go_wp2_with fail
                  go_region
                  go_wp2_with fail
                  go_meet
                  exact HKC.out.next (World.drewB _)
              · obtain rfl : k = l.length := by omega
                obtain rfl : false = c := by rw [← HCM.out]; exact (com_none (Nat.le_refl _)).symm
                obtain ⟨_, _, _, _, _, x0, x1, x2, x3, xf⟩ := K
                have xf3 := xf 3
                clear xf
                go_wp2_with fail
                go_region
                go_wp2_with fail
                go_meet
                exact HKC.out.next (World.drewB _)
            case rest =>
              have K := hcut
              clear hcut HKC
              cases c
              · have HPOS := Lib.hid (end_pos HE.out HBE.out HEND.out HCM.out)
                obtain ⟨m, rfl⟩ : ∃ m, k = m + 1 := ⟨k - 1, by have := HPOS.out; omega⟩
                have HTK := Lib.hid (atsL_take HE.out HBE.out HEND.out HCM.out)
                have HKT := Lib.hid (K.setT m)
                have HN := news_at (wc.setCell ⟨X, 1, none⟩ (.int .i64 m)) ⟨i, m, e.task, false⟩ 48
                rw [World.size_setCell] at HN
                have HNH := Lib.hid HN
                obtain ⟨_, _, _, _, _, x0, x1, x2, x3, xf⟩ := K
                have xf1 := xf 1
                have hoI := HT.out
                have hm80 : (m : Int) ≤ 80 := by omega
                clear HN xf
                go_wp2_with (at_builtin; refine wpList_append_own _ rfl (.tmp 86) (.tmp 88) 42 rfl w.heap.size 48 i48 (.agg #[.int .i64 0, .int .i64 0, .int .i64 0, .bool false]) 4 32 Tryd.underlying42 hti hz0 hz1 hz2 rfl (by decide) _ _ _ rfl (HKT.out.own.alloc _) ⟨wc.heap.size, 0, none⟩ 1 1 (cellsA ⟨i, m, e.task, false⟩) rfl rfl HNH.out (one_at _) (by unfold maxLen; omega) (by omega) (by simp; omega) ?_; intro v1 w7 hown1 hgrow1 hnil1)
                have HBW := Lib.hid (show Below w.heap.size w w7 from (HKT.out.below.alloc (HKT.out.below.size) _).grown hgrow1 (by have := HKT.out.below.size; simp at this ⊢; omega) (fun j hj => ((HKT.out.own.lt j hj).1)))
                have hown2 : w7.ownsRow w.heap.size 48 4 v1 (o ++ [(⟨i, m, e.task, false⟩ : At)]).length (flatA (o ++ [(⟨i, m, e.task, false⟩ : At)])) := by rw [flatA_snoc, List.length_append, List.length_singleton]; exact hown1
                have HOW2 := Lib.hid hown2
                clear hown1 hown2 hgrow1 hnil1 x0 x1 x2 x3 xf1
                go_wp2_with fail
                go_roundw
                case rel => exact ⟨m + 1, o ++ [(⟨i, m, e.task, false⟩ : At)], by omega, by go_num, by rw [← HO.out, HTK.out, List.append_assoc]; simp, by rw [List.length_append, List.length_singleton]; have := HPOS.out; omega, HBW.out, HOW2.out⟩
                case measure => simp [intOf]; have := HPOS.out; omega
              · have HTK := Lib.hid (atsL_take HE.out HBE.out HEND.out HCM.out)
                have hkl2 := com_lt HCM.out
                have hik := HEND.out.le
                have HKT := Lib.hid (K.setT k)
                have HN := news_at (wc.setCell ⟨X, 1, none⟩ (.int .i64 k)) ⟨i, k, e.task, true⟩ 48
                rw [World.size_setCell] at HN
                have HNH := Lib.hid HN
                obtain ⟨_, _, _, _, _, x0, x1, x2, x3, xf⟩ := K
                have xf1 := xf 1
                have hoI := HT.out
                have hm80 : (k : Int) ≤ 80 := by omega
                clear HN xf
                go_wp2_with (at_builtin; refine wpList_append_own _ rfl (.tmp 86) (.tmp 88) 42 rfl w.heap.size 48 i48 (.agg #[.int .i64 0, .int .i64 0, .int .i64 0, .bool false]) 4 32 Tryd.underlying42 hti hz0 hz1 hz2 rfl (by decide) _ _ _ rfl (HKT.out.own.alloc _) ⟨wc.heap.size, 0, none⟩ 1 1 (cellsA ⟨i, k, e.task, true⟩) rfl rfl HNH.out (one_at _) (by unfold maxLen; omega) (by omega) (by simp; omega) ?_; intro v1 w7 hown1 hgrow1 hnil1)
                have HBW := Lib.hid (show Below w.heap.size w w7 from (HKT.out.below.alloc (HKT.out.below.size) _).grown hgrow1 (by have := HKT.out.below.size; simp at this ⊢; omega) (fun j hj => ((HKT.out.own.lt j hj).1)))
                have hown2 : w7.ownsRow w.heap.size 48 4 v1 (o ++ [(⟨i, k, e.task, true⟩ : At)]).length (flatA (o ++ [(⟨i, k, e.task, true⟩ : At)])) := by rw [flatA_snoc, List.length_append, List.length_singleton]; exact hown1
                have HOW2 := Lib.hid hown2
                clear hown1 hown2 hgrow1 hnil1 x0 x1 x2 x3 xf1
                go_wp2_with fail
                go_roundw
                case rel => exact ⟨k + 1, o ++ [(⟨i, k, e.task, true⟩ : At)], by omega, by go_num, by rw [← HO.out, HTK.out, List.append_assoc]; simp, by rw [List.length_append, List.length_singleton]; omega, HBW.out, HOW2.out⟩
                case measure => simp [intOf]; omega
    · obtain rfl : i = l.length := by omega
      rw [atsL_end (Nat.le_refl _), List.append_nil] at HO
      go_wp2_with fail
      go_ret
      obtain ⟨A', cap', rfl, C'⟩ := Atts.of_own hown
      have q := HO.out
      subst q
      exact ⟨A', cap', rfl, C', hb, fun ad e => (hown.lt _ (by subst e; rfl)).1⟩
end Go.Proofs.YtdfconiahfdhbaaDoor
