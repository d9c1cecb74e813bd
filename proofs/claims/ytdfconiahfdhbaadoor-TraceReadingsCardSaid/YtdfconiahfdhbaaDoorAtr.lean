/-
  Attempts, by the reference.
-/
import Derived.Test.YtdfconiahfdhbaaDoorAtw
namespace Go.Proofs.YtdfconiahfdhbaaDoor
open Go.RowKit
attribute [local go_sem ↓] Go.wp_at_zero Go.wp_at_succ

theorem beg_of {l : List Ev} {i k : Nat} {e : Ev} (h : l[i]? = some e) (H : IsEnd l e.task i k) (hc : i < k ∨ comA l e.task k = true) : begE e = true := by
  unfold begE
  by_cases q : i < k
  · have hg := H.on i (Nat.le_refl _) q
    rw [goes_at h] at hg
    simp at hg
    rw [hg]; rfl
  · obtain rfl : i = k := by have := H.le; omega
    rcases hc with hc | hc
    · omega
    · rw [com_at h] at hc
      simp at hc
      rw [hc]; simp
theorem not_beg_of {l : List Ev} {i : Nat} {e : Ev} (h : l[i]? = some e) (H : IsEnd l e.task i i) (hc : comA l e.task i = false) : begE e = false := by
  have hg := H.off
  rw [goes_at h] at hg
  rw [com_at h] at hc
  simp at hg hc
  unfold begE
  rw [hg, hc]; rfl
theorem AS.grown {w0 W W' : World} {te : TypeId} {o : List At} {v : Value} {X : Nat} {fr tt task : Int} {com : Bool} {ob : Obj} (h : AS w0 te o v X fr tt task com W) (hg : (W.alloc ob).grownBy W' v.ownBlock) : W'.cell? ⟨X, 1, none⟩ = some (.int .i64 tt) := by
  have hlt := h.ax.lt
  have h1 := hg.cell_far ⟨X, 1, none⟩ (by simp only [World.size_alloc]; omega) (Ne.symm h.ne)
  rw [h1, (bcell (ba W ob)).1 _ _ hlt]
  exact h.ax.c1
set_option maxRecDepth 100000 in
set_option maxHeartbeats 4000000 in
theorem rattempts_c (l : List Ev) (hl : l.length ≤ 80) (A : Option Addr) (cap : Nat) (w : World) (C : Evs w A l) : Calls Tryd.prog 21 #[.slice A l.length cap] w (GivesA (atsL l 0) w) := by
  obtain ⟨i47, hti, hz0, hz1, hz2⟩ := info_parts info47
  have HC := Lib.hid C
  have hl3 : (l.length : Int) ≤ 80 := by omega
  clear C
  go_enter Tryd.func21, Tryd.ntmps21
  go_wp2_with fail
  go_loopw [3, 4] (fun s3 s4 wr => ∃ (i : Nat) (o : List At), i ≤ l.length ∧ s4 = .int .i64 i ∧ o ++ atsL l i = atsL l 0 ∧ o.length ≤ i ∧ Below w.heap.size w wr ∧ wr.ownsRow w.heap.size 47 4 s3 o.length (flatA o)) (fun _ s4 _ => l.length - (intOf s4).toNat)
  case atStart => exact ⟨0, [], by omega, rfl, rfl, by simp, Below.refl _ _, World.ownsRow_nil _ _ _ _⟩
  case round =>
    obtain ⟨i, o, hi, rfl, ho, hol, hb, hown⟩ := hrel
    have HO := Lib.hid ho
    have HB := Lib.hid hb
    clear ho
    by_cases hlt : i < l.length
    · have HE := Lib.hid (List.getElem?_eq_getElem hlt)
      obtain ⟨ad, rfl, EA⟩ := (HC.out.next hb).at_ i _ HE.out
      generalize l[i] = e at *
      have HT := Lib.hid (show o.length ≤ 80 from by omega)
      obtain ⟨_, c0, c1, c2, c3, c4, c5⟩ := EA
      clear hb
      go_upto_block 2 with fail
      have hne : u3.ownBlock ≠ some wr.heap.size := fun q => by have := (hown.lt _ q).2; omega
      have HS0 := Lib.hid (show AS w 47 o u3 wr.heap.size i 0 e.task false (wr.alloc (.cells #[.int .i64 i, .int .i64 0, .int .i64 e.task, .bool false] 47)) from ⟨bt HB.out (ba _ _), owns_below hown (ba _ _), HB.out.size, hne, AX.new _ _ _ _ _ _⟩)
      generalize wr.heap.size = X at *
      generalize hW0 : wr.alloc (.cells #[.int .i64 i, .int .i64 0, .int .i64 e.task, .bool false] 47) = W0 at *
      clear c0 c1 c2 c3 c4 c5 hne
      go_cut [6] from 7 to 88 (fun s6 wx => ∃ k : Nat, s6 = .int .i64 k ∧ IsEnd l e.task i k ∧ AS w 47 o u3 X i 0 e.task false wx)
      case first =>
        go_wp2_with fail
        go_loopw [6] (fun s6 wx => ∃ k : Nat, i ≤ k ∧ k ≤ l.length ∧ s6 = .int .i64 k ∧ (∀ m, i ≤ m → m < k → goesA l e.task m = true) ∧ AS w 47 o u3 X i 0 e.task false wx) (fun s6 _ => l.length - (intOf s6).toNat)
        case atStart => exact ⟨i, by omega, by omega, rfl, fun m h1 h2 => by omega, HS0.out⟩
        case round =>
          obtain ⟨k, hik, hkl, rfl, hgo, K⟩ := hrel
          have HGO := Lib.hid hgo
          by_cases hlt2 : k < l.length
          · have HX := Lib.hid (List.getElem?_eq_getElem hlt2)
            obtain ⟨ad', q, EK⟩ := (HC.out.next K.below).at_ k _ HX.out
            cases q
            generalize l[k] = x at *
            replace K := K.next (World.drewB _)
            replace EK := EK.next (World.drewB _)
            clear hgo
            have HXE := Lib.hid (goes_at (t := e.task) HX.out)
            cases hax : actE x
            · have HAX := Lib.hid hax
              have HOFF := Lib.hid (show goesA l e.task k = false from by rw [HXE.out, hax]; rfl)
              clear hax
              go_wp2_with fail
              refine wp_region_held_drew (S := (fun w' => w'.cell? (ad.add (k * 6)) = some (.int .i64 x.kind) ∧ w'.cell? ⟨(ad.add (k * 6)).block, (ad.add (k * 6)).off + 1, none⟩ = some (.int .i64 x.time) ∧ w'.cell? ⟨(ad.add (k * 6)).block, (ad.add (k * 6)).off + 2, none⟩ = some (.int .i64 x.task) ∧ w'.cell? ⟨(ad.add (k * 6)).block, (ad.add (k * 6)).off + 3, none⟩ = some (.int .i64 x.n) ∧ w'.cell? ⟨(ad.add (k * 6)).block, (ad.add (k * 6)).off + 4, none⟩ = some (.int .i16 x.value) ∧ w'.cell? ⟨(ad.add (k * 6)).block, (ad.add (k * 6)).off + 5, none⟩ = some (.int .i64 x.port) ∧ w'.cell? ⟨X, 2, none⟩ = some (.int .i64 e.task))) (by kernel_rfl) ?_ (fun hHeld => ?_)
              · exact ⟨EK.c0, EK.c1, EK.c2, EK.c3, EK.c4, EK.c5, K.ax.c2⟩
              change wpAnyH _ _ _ _ _ 21 #[false, false, false, false, false, false, false, false, false, false, false, false, false, false, false, false, false, false, false, false, false] _ _
              refine wpAnyH_take (i := 0) (oi := ⟨some 21, _, _, _, _, _⟩) (v := ?_) rfl (by kernel_rfl) (by kernel_rfl) (by kernel_rfl) (fun _ _ _ h => h) (Or.inl ⟨by rfl, ?_⟩) (by assumption) ?_
              rotate_left
              · first | (intro w hSw; (try dsimp only at hSw); go_simp; done) | (intro w hSw; (try dsimp only at hSw); go_simp; with_reducible rfl)
              try simp only [Act.put, List.setIfInBounds_toArray, List.set_cons_zero, List.set_cons_succ]
              refine wpAnyH_take (i := 1) (oi := ⟨some 22, _, _, _, _, _⟩) (v := ?_) rfl (by kernel_rfl) (by kernel_rfl) (by kernel_rfl) (fun _ _ _ h => h) (Or.inl ⟨by rfl, ?_⟩) (by assumption) ?_
              rotate_left
              · first | (intro w hSw; (try dsimp only at hSw); go_simp; done) | (intro w hSw; (try dsimp only at hSw); go_simp; with_reducible rfl)
              try simp only [Act.put, List.setIfInBounds_toArray, List.set_cons_zero, List.set_cons_succ]
              refine wpAnyH_take (i := 2) (oi := ⟨some 23, _, _, _, _, _⟩) (v := ?_) rfl (by kernel_rfl) (by kernel_rfl) (by kernel_rfl) (fun _ _ _ h => h) (Or.inl ⟨by rfl, ?_⟩) (by assumption) ?_
              rotate_left
              · first | (intro w hSw; (try dsimp only at hSw); go_simp; done) | (intro w hSw; (try dsimp only at hSw); go_simp; with_reducible rfl)
              try simp only [Act.put, List.setIfInBounds_toArray, List.set_cons_zero, List.set_cons_succ]
              refine wpAnyH_take (i := 3) (oi := ⟨some 24, _, _, _, _, _⟩) (v := ?_) rfl (by kernel_rfl) (by kernel_rfl) (by kernel_rfl) (fun _ _ _ h => h) (Or.inl ⟨by rfl, ?_⟩) (by assumption) ?_
              rotate_left
              · first | (intro w hSw; (try dsimp only at hSw); go_simp; done) | (intro w hSw; (try dsimp only at hSw); go_simp; with_reducible rfl)
              try simp only [Act.put, List.setIfInBounds_toArray, List.set_cons_zero, List.set_cons_succ]
              refine wpAnyH_take (i := 4) (oi := ⟨some 25, _, _, _, _, _⟩) (v := ?_) rfl (by kernel_rfl) (by kernel_rfl) (by kernel_rfl) (fun _ _ _ h => h) (Or.inl ⟨by rfl, ?_⟩) (by assumption) ?_
              rotate_left
              · first | (intro w hSw; (try dsimp only at hSw); go_simp; done) | (intro w hSw; (try dsimp only at hSw); go_simp; with_reducible rfl)
              try simp only [Act.put, List.setIfInBounds_toArray, List.set_cons_zero, List.set_cons_succ]
              refine wpAnyH_take (i := 5) (oi := ⟨some 26, _, _, _, _, _⟩) (v := ?_) rfl (by kernel_rfl) (by kernel_rfl) (by kernel_rfl) (fun _ _ _ h => h) (Or.inl ⟨by rfl, ?_⟩) (by assumption) ?_
              rotate_left
              · first | (intro w hSw; (try dsimp only at hSw); go_simp; done) | (intro w hSw; (try dsimp only at hSw); go_simp; with_reducible rfl)
              try simp only [Act.put, List.setIfInBounds_toArray, List.set_cons_zero, List.set_cons_succ]
              refine wpAnyH_take (i := 6) (oi := ⟨some 27, _, _, _, _, _⟩) (v := ?_) rfl (by kernel_rfl) (by kernel_rfl) (by kernel_rfl) (fun _ _ _ h => h) (Or.inl ⟨by rfl, ?_⟩) (by assumption) ?_
              rotate_left
              · first | (intro w hSw; (try dsimp only at hSw); go_simp; done) | (intro w hSw; (try dsimp only at hSw); go_simp; with_reducible rfl)
              try simp only [Act.put, List.setIfInBounds_toArray, List.set_cons_zero, List.set_cons_succ]
              refine wpAnyH_take (i := 7) (oi := ⟨some 28, _, _, _, _, _⟩) (v := ?_) rfl (by kernel_rfl) (by kernel_rfl) (by kernel_rfl) (fun _ _ _ h => h) (Or.inl ⟨by rfl, ?_⟩) (by assumption) ?_
              rotate_left
              · first | (intro w hSw; (try dsimp only at hSw); go_simp; done) | (intro w hSw; (try dsimp only at hSw); go_simp; with_reducible rfl)
              try simp only [Act.put, List.setIfInBounds_toArray, List.set_cons_zero, List.set_cons_succ]
              refine wpAnyH_take (i := 8) (oi := ⟨some 29, _, _, _, _, _⟩) (v := ?_) rfl (by kernel_rfl) (by kernel_rfl) (by kernel_rfl) (fun _ _ _ h => h) (Or.inl ⟨by rfl, ?_⟩) (by assumption) ?_
              rotate_left
              · first | (intro w hSw; (try dsimp only at hSw); go_simp; done) | (intro w hSw; (try dsimp only at hSw); go_simp; with_reducible rfl)
              try simp only [Act.put, List.setIfInBounds_toArray, List.set_cons_zero, List.set_cons_succ]
              refine wpAnyH_ready (rs := [9]) (by kernel_rfl) (by simp) (AllReadyH.cons (o := ⟨some 30, _, _, _, _, _⟩) rfl (fun KX hKX => ?_) AllReadyH.nil)
              go_simp
              (with_reducible refine (inner_c x _ HAX.out).mono ?_); rintro r w7 ⟨rfl, hb7⟩; replace K := K.next hb7; replace EK := EK.next hb7; go_wp2_with fail
              refine hKX.out _ _ ?_ (fun hHeld => ?_)
              · exact ⟨EK.c0, EK.c1, EK.c2, EK.c3, EK.c4, EK.c5, K.ax.c2⟩
              clear hKX KX
              try simp only [List.setIfInBounds_toArray, List.set_cons_zero, List.set_cons_succ]
              refine wpAnyH_take (i := 10) (oi := ⟨some 31, _, _, _, _, _⟩) (v := ?_) rfl (by kernel_rfl) (by kernel_rfl) (by kernel_rfl) (fun _ _ _ h => h) (Or.inl ⟨by rfl, ?_⟩) (by assumption) ?_
              rotate_left
              · first | (intro w hSw; (try dsimp only at hSw); go_simp; done) | (intro w hSw; (try dsimp only at hSw); go_simp; with_reducible rfl)
              try simp only [Act.put, List.setIfInBounds_toArray, List.set_cons_zero, List.set_cons_succ]
              refine wpAnyH_take (i := 11) (oi := ⟨some 32, _, _, _, _, _⟩) (v := ?_) rfl (by kernel_rfl) (by kernel_rfl) (by kernel_rfl) (fun _ _ _ h => h) (Or.inl ⟨by rfl, ?_⟩) (by assumption) ?_
              rotate_left
              · first | (intro w hSw; (try dsimp only at hSw); go_simp; done) | (intro w hSw; (try dsimp only at hSw); go_simp; with_reducible rfl)
              try simp only [Act.put, List.setIfInBounds_toArray, List.set_cons_zero, List.set_cons_succ]
              refine wpAnyH_take (i := 12) (oi := ⟨some 33, _, _, _, _, _⟩) (v := undef) rfl (by kernel_rfl) (by kernel_rfl) (by kernel_rfl) (fun _ _ _ h => h) (Or.inr ⟨by rfl, rfl⟩) (by assumption) ?_
              try simp only [Act.put, List.setIfInBounds_toArray, List.set_cons_zero, List.set_cons_succ]
              refine wpAnyH_take (i := 13) (oi := ⟨some 34, _, _, _, _, _⟩) (v := undef) rfl (by kernel_rfl) (by kernel_rfl) (by kernel_rfl) (fun _ _ _ h => h) (Or.inr ⟨by rfl, rfl⟩) (by assumption) ?_
              try simp only [Act.put, List.setIfInBounds_toArray, List.set_cons_zero, List.set_cons_succ]
              refine wpAnyH_take (i := 14) (oi := ⟨some 35, _, _, _, _, _⟩) (v := undef) rfl (by kernel_rfl) (by kernel_rfl) (by kernel_rfl) (fun _ _ _ h => h) (Or.inr ⟨by rfl, rfl⟩) (by assumption) ?_
              try simp only [Act.put, List.setIfInBounds_toArray, List.set_cons_zero, List.set_cons_succ]
              refine wpAnyH_take (i := 15) (oi := ⟨some 36, _, _, _, _, _⟩) (v := undef) rfl (by kernel_rfl) (by kernel_rfl) (by kernel_rfl) (fun _ _ _ h => h) (Or.inr ⟨by rfl, rfl⟩) (by assumption) ?_
              try simp only [Act.put, List.setIfInBounds_toArray, List.set_cons_zero, List.set_cons_succ]
              refine wpAnyH_take (i := 16) (oi := ⟨some 37, _, _, _, _, _⟩) (v := undef) rfl (by kernel_rfl) (by kernel_rfl) (by kernel_rfl) (fun _ _ _ h => h) (Or.inr ⟨by rfl, rfl⟩) (by assumption) ?_
              try simp only [Act.put, List.setIfInBounds_toArray, List.set_cons_zero, List.set_cons_succ]
              refine wpAnyH_take (i := 17) (oi := ⟨some 38, _, _, _, _, _⟩) (v := undef) rfl (by kernel_rfl) (by kernel_rfl) (by kernel_rfl) (fun _ _ _ h => h) (Or.inr ⟨by rfl, rfl⟩) (by assumption) ?_
              try simp only [Act.put, List.setIfInBounds_toArray, List.set_cons_zero, List.set_cons_succ]
              refine wpAnyH_take (i := 18) (oi := ⟨some 39, _, _, _, _, _⟩) (v := undef) rfl (by kernel_rfl) (by kernel_rfl) (by kernel_rfl) (fun _ _ _ h => h) (Or.inr ⟨by rfl, rfl⟩) (by assumption) ?_
              try simp only [Act.put, List.setIfInBounds_toArray, List.set_cons_zero, List.set_cons_succ]
              refine wpAnyH_take (i := 19) (oi := ⟨some 40, _, _, _, _, _⟩) (v := undef) rfl (by kernel_rfl) (by kernel_rfl) (by kernel_rfl) (fun _ _ _ h => h) (Or.inr ⟨by rfl, rfl⟩) (by assumption) ?_
              try simp only [Act.put, List.setIfInBounds_toArray, List.set_cons_zero, List.set_cons_succ]
              refine wpAnyH_take (i := 20) (oi := ⟨some 41, _, _, _, _, _⟩) (v := ?_) rfl (by kernel_rfl) (by kernel_rfl) (by kernel_rfl) (fun _ _ _ h => h) (Or.inl ⟨by rfl, ?_⟩) (by assumption) ?_
              rotate_left
              · first | (intro w hSw; (try dsimp only at hSw); go_simp; done) | (intro w hSw; (try dsimp only at hSw); go_simp; with_reducible rfl)
              try simp only [Act.put, List.setIfInBounds_toArray, List.set_cons_zero, List.set_cons_succ]
              refine wpAnyH_done (by kernel_rfl) ?_ _
              go_wp2_with fail
              go_meet
              exact ⟨k, rfl, ⟨hik, HGO.out, HOFF.out⟩, K⟩
            · have HAX := Lib.hid hax
              by_cases htk : x.task = e.task
              · have HON := Lib.hid (show goesA l e.task k = true from by rw [HXE.out, hax, htk]; simp)
                have ht1 : (x.task == e.task) = true := by simpa using htk
                clear hax htk
                go_wp2_with fail
                refine wp_region_held_drew (S := (fun w' => w'.cell? (ad.add (k * 6)) = some (.int .i64 x.kind) ∧ w'.cell? ⟨(ad.add (k * 6)).block, (ad.add (k * 6)).off + 1, none⟩ = some (.int .i64 x.time) ∧ w'.cell? ⟨(ad.add (k * 6)).block, (ad.add (k * 6)).off + 2, none⟩ = some (.int .i64 x.task) ∧ w'.cell? ⟨(ad.add (k * 6)).block, (ad.add (k * 6)).off + 3, none⟩ = some (.int .i64 x.n) ∧ w'.cell? ⟨(ad.add (k * 6)).block, (ad.add (k * 6)).off + 4, none⟩ = some (.int .i16 x.value) ∧ w'.cell? ⟨(ad.add (k * 6)).block, (ad.add (k * 6)).off + 5, none⟩ = some (.int .i64 x.port) ∧ w'.cell? ⟨X, 2, none⟩ = some (.int .i64 e.task))) (by kernel_rfl) ?_ (fun hHeld => ?_)
                · exact ⟨EK.c0, EK.c1, EK.c2, EK.c3, EK.c4, EK.c5, K.ax.c2⟩
                change wpAnyH _ _ _ _ _ 21 #[false, false, false, false, false, false, false, false, false, false, false, false, false, false, false, false, false, false, false, false, false] _ _
                refine wpAnyH_take (i := 0) (oi := ⟨some 21, _, _, _, _, _⟩) (v := ?_) rfl (by kernel_rfl) (by kernel_rfl) (by kernel_rfl) (fun _ _ _ h => h) (Or.inl ⟨by rfl, ?_⟩) (by assumption) ?_
                rotate_left
                · first | (intro w hSw; (try dsimp only at hSw); go_simp; done) | (intro w hSw; (try dsimp only at hSw); go_simp; with_reducible rfl)
                try simp only [Act.put, List.setIfInBounds_toArray, List.set_cons_zero, List.set_cons_succ]
                refine wpAnyH_take (i := 1) (oi := ⟨some 22, _, _, _, _, _⟩) (v := ?_) rfl (by kernel_rfl) (by kernel_rfl) (by kernel_rfl) (fun _ _ _ h => h) (Or.inl ⟨by rfl, ?_⟩) (by assumption) ?_
                rotate_left
                · first | (intro w hSw; (try dsimp only at hSw); go_simp; done) | (intro w hSw; (try dsimp only at hSw); go_simp; with_reducible rfl)
                try simp only [Act.put, List.setIfInBounds_toArray, List.set_cons_zero, List.set_cons_succ]
                refine wpAnyH_take (i := 2) (oi := ⟨some 23, _, _, _, _, _⟩) (v := ?_) rfl (by kernel_rfl) (by kernel_rfl) (by kernel_rfl) (fun _ _ _ h => h) (Or.inl ⟨by rfl, ?_⟩) (by assumption) ?_
                rotate_left
                · first | (intro w hSw; (try dsimp only at hSw); go_simp; done) | (intro w hSw; (try dsimp only at hSw); go_simp; with_reducible rfl)
                try simp only [Act.put, List.setIfInBounds_toArray, List.set_cons_zero, List.set_cons_succ]
                refine wpAnyH_take (i := 3) (oi := ⟨some 24, _, _, _, _, _⟩) (v := ?_) rfl (by kernel_rfl) (by kernel_rfl) (by kernel_rfl) (fun _ _ _ h => h) (Or.inl ⟨by rfl, ?_⟩) (by assumption) ?_
                rotate_left
                · first | (intro w hSw; (try dsimp only at hSw); go_simp; done) | (intro w hSw; (try dsimp only at hSw); go_simp; with_reducible rfl)
                try simp only [Act.put, List.setIfInBounds_toArray, List.set_cons_zero, List.set_cons_succ]
                refine wpAnyH_take (i := 4) (oi := ⟨some 25, _, _, _, _, _⟩) (v := ?_) rfl (by kernel_rfl) (by kernel_rfl) (by kernel_rfl) (fun _ _ _ h => h) (Or.inl ⟨by rfl, ?_⟩) (by assumption) ?_
                rotate_left
                · first | (intro w hSw; (try dsimp only at hSw); go_simp; done) | (intro w hSw; (try dsimp only at hSw); go_simp; with_reducible rfl)
                try simp only [Act.put, List.setIfInBounds_toArray, List.set_cons_zero, List.set_cons_succ]
                refine wpAnyH_take (i := 5) (oi := ⟨some 26, _, _, _, _, _⟩) (v := ?_) rfl (by kernel_rfl) (by kernel_rfl) (by kernel_rfl) (fun _ _ _ h => h) (Or.inl ⟨by rfl, ?_⟩) (by assumption) ?_
                rotate_left
                · first | (intro w hSw; (try dsimp only at hSw); go_simp; done) | (intro w hSw; (try dsimp only at hSw); go_simp; with_reducible rfl)
                try simp only [Act.put, List.setIfInBounds_toArray, List.set_cons_zero, List.set_cons_succ]
                refine wpAnyH_take (i := 6) (oi := ⟨some 27, _, _, _, _, _⟩) (v := ?_) rfl (by kernel_rfl) (by kernel_rfl) (by kernel_rfl) (fun _ _ _ h => h) (Or.inl ⟨by rfl, ?_⟩) (by assumption) ?_
                rotate_left
                · first | (intro w hSw; (try dsimp only at hSw); go_simp; done) | (intro w hSw; (try dsimp only at hSw); go_simp; with_reducible rfl)
                try simp only [Act.put, List.setIfInBounds_toArray, List.set_cons_zero, List.set_cons_succ]
                refine wpAnyH_take (i := 7) (oi := ⟨some 28, _, _, _, _, _⟩) (v := ?_) rfl (by kernel_rfl) (by kernel_rfl) (by kernel_rfl) (fun _ _ _ h => h) (Or.inl ⟨by rfl, ?_⟩) (by assumption) ?_
                rotate_left
                · first | (intro w hSw; (try dsimp only at hSw); go_simp; done) | (intro w hSw; (try dsimp only at hSw); go_simp; with_reducible rfl)
                try simp only [Act.put, List.setIfInBounds_toArray, List.set_cons_zero, List.set_cons_succ]
                refine wpAnyH_take (i := 8) (oi := ⟨some 29, _, _, _, _, _⟩) (v := ?_) rfl (by kernel_rfl) (by kernel_rfl) (by kernel_rfl) (fun _ _ _ h => h) (Or.inl ⟨by rfl, ?_⟩) (by assumption) ?_
                rotate_left
                · first | (intro w hSw; (try dsimp only at hSw); go_simp; done) | (intro w hSw; (try dsimp only at hSw); go_simp; with_reducible rfl)
                try simp only [Act.put, List.setIfInBounds_toArray, List.set_cons_zero, List.set_cons_succ]
                refine wpAnyH_ready (rs := [9]) (by kernel_rfl) (by simp) (AllReadyH.cons (o := ⟨some 30, _, _, _, _, _⟩) rfl (fun KX hKX => ?_) AllReadyH.nil)
                go_simp
                (with_reducible refine (inner_c x _ HAX.out).mono ?_); rintro r w7 ⟨rfl, hb7⟩; replace K := K.next hb7; replace EK := EK.next hb7; go_wp2_with fail
                refine hKX.out _ _ ?_ (fun hHeld => ?_)
                · exact ⟨EK.c0, EK.c1, EK.c2, EK.c3, EK.c4, EK.c5, K.ax.c2⟩
                clear hKX KX
                try simp only [List.setIfInBounds_toArray, List.set_cons_zero, List.set_cons_succ]
                refine wpAnyH_take (i := 10) (oi := ⟨some 31, _, _, _, _, _⟩) (v := ?_) rfl (by kernel_rfl) (by kernel_rfl) (by kernel_rfl) (fun _ _ _ h => h) (Or.inl ⟨by rfl, ?_⟩) (by assumption) ?_
                rotate_left
                · first | (intro w hSw; (try dsimp only at hSw); go_simp; done) | (intro w hSw; (try dsimp only at hSw); go_simp; with_reducible rfl)
                try simp only [Act.put, List.setIfInBounds_toArray, List.set_cons_zero, List.set_cons_succ]
                refine wpAnyH_take (i := 11) (oi := ⟨some 32, _, _, _, _, _⟩) (v := ?_) rfl (by kernel_rfl) (by kernel_rfl) (by kernel_rfl) (fun _ _ _ h => h) (Or.inl ⟨by rfl, ?_⟩) (by assumption) ?_
                rotate_left
                · first | (intro w hSw; (try dsimp only at hSw); go_simp; done) | (intro w hSw; (try dsimp only at hSw); go_simp; with_reducible rfl)
                try simp only [Act.put, List.setIfInBounds_toArray, List.set_cons_zero, List.set_cons_succ]
                refine wpAnyH_take (i := 12) (oi := ⟨some 33, _, _, _, _, _⟩) (v := ?_) rfl (by kernel_rfl) (by kernel_rfl) (by kernel_rfl) (fun _ _ _ h => h) (Or.inl ⟨by rfl, ?_⟩) (by assumption) ?_
                rotate_left
                · first | (intro w hSw; (try dsimp only at hSw); go_simp; done) | (intro w hSw; (try dsimp only at hSw); go_simp; with_reducible rfl)
                try simp only [Act.put, List.setIfInBounds_toArray, List.set_cons_zero, List.set_cons_succ]
                refine wpAnyH_take (i := 13) (oi := ⟨some 34, _, _, _, _, _⟩) (v := ?_) rfl (by kernel_rfl) (by kernel_rfl) (by kernel_rfl) (fun _ _ _ h => h) (Or.inl ⟨by rfl, ?_⟩) (by assumption) ?_
                rotate_left
                · first | (intro w hSw; (try dsimp only at hSw); go_simp; done) | (intro w hSw; (try dsimp only at hSw); go_simp; with_reducible rfl)
                try simp only [Act.put, List.setIfInBounds_toArray, List.set_cons_zero, List.set_cons_succ]
                refine wpAnyH_take (i := 14) (oi := ⟨some 35, _, _, _, _, _⟩) (v := ?_) rfl (by kernel_rfl) (by kernel_rfl) (by kernel_rfl) (fun _ _ _ h => h) (Or.inl ⟨by rfl, ?_⟩) (by assumption) ?_
                rotate_left
                · first | (intro w hSw; (try dsimp only at hSw); go_simp; done) | (intro w hSw; (try dsimp only at hSw); go_simp; with_reducible rfl)
                try simp only [Act.put, List.setIfInBounds_toArray, List.set_cons_zero, List.set_cons_succ]
                refine wpAnyH_take (i := 15) (oi := ⟨some 36, _, _, _, _, _⟩) (v := ?_) rfl (by kernel_rfl) (by kernel_rfl) (by kernel_rfl) (fun _ _ _ h => h) (Or.inl ⟨by rfl, ?_⟩) (by assumption) ?_
                rotate_left
                · first | (intro w hSw; (try dsimp only at hSw); go_simp; done) | (intro w hSw; (try dsimp only at hSw); go_simp; with_reducible rfl)
                try simp only [Act.put, List.setIfInBounds_toArray, List.set_cons_zero, List.set_cons_succ]
                refine wpAnyH_take (i := 16) (oi := ⟨some 37, _, _, _, _, _⟩) (v := ?_) rfl (by kernel_rfl) (by kernel_rfl) (by kernel_rfl) (fun _ _ _ h => h) (Or.inl ⟨by rfl, ?_⟩) (by assumption) ?_
                rotate_left
                · first | (intro w hSw; (try dsimp only at hSw); go_simp; done) | (intro w hSw; (try dsimp only at hSw); go_simp; with_reducible rfl)
                try simp only [Act.put, List.setIfInBounds_toArray, List.set_cons_zero, List.set_cons_succ]
                refine wpAnyH_take (i := 17) (oi := ⟨some 38, _, _, _, _, _⟩) (v := ?_) rfl (by kernel_rfl) (by kernel_rfl) (by kernel_rfl) (fun _ _ _ h => h) (Or.inl ⟨by rfl, ?_⟩) (by assumption) ?_
                rotate_left
                · first | (intro w hSw; (try dsimp only at hSw); go_simp; done) | (intro w hSw; (try dsimp only at hSw); go_simp; with_reducible rfl)
                try simp only [Act.put, List.setIfInBounds_toArray, List.set_cons_zero, List.set_cons_succ]
                refine wpAnyH_take (i := 18) (oi := ⟨some 39, _, _, _, _, _⟩) (v := ?_) rfl (by kernel_rfl) (by kernel_rfl) (by kernel_rfl) (fun _ _ _ h => h) (Or.inl ⟨by rfl, ?_⟩) (by assumption) ?_
                rotate_left
                · first | (intro w hSw; (try dsimp only at hSw); go_simp; done) | (intro w hSw; (try dsimp only at hSw); go_simp; with_reducible rfl)
                try simp only [Act.put, List.setIfInBounds_toArray, List.set_cons_zero, List.set_cons_succ]
                refine wpAnyH_take (i := 19) (oi := ⟨some 40, _, _, _, _, _⟩) (v := ?_) rfl (by kernel_rfl) (by kernel_rfl) (by kernel_rfl) (fun _ _ _ h => h) (Or.inl ⟨by rfl, ?_⟩) (by assumption) ?_
                rotate_left
                · first | (intro w hSw; (try dsimp only at hSw); go_simp; done) | (intro w hSw; (try dsimp only at hSw); go_simp; with_reducible rfl)
                try simp only [Act.put, List.setIfInBounds_toArray, List.set_cons_zero, List.set_cons_succ]
                refine wpAnyH_take (i := 20) (oi := ⟨some 41, _, _, _, _, _⟩) (v := ?_) rfl (by kernel_rfl) (by kernel_rfl) (by kernel_rfl) (fun _ _ _ h => h) (Or.inl ⟨by rfl, ?_⟩) (by assumption) ?_
                rotate_left
                · first | (intro w hSw; (try dsimp only at hSw); go_simp; done) | (intro w hSw; (try dsimp only at hSw); go_simp; with_reducible rfl)
                try simp only [Act.put, List.setIfInBounds_toArray, List.set_cons_zero, List.set_cons_succ]
                refine wpAnyH_done (by kernel_rfl) ?_ _
                go_wp2_with fail
                go_roundw
                case rel => exact ⟨k + 1, by omega, by omega, by go_num, fun m h1 h2 => by
                  by_cases q : m = k
                  · subst q; exact HON.out
                  · exact HGO.out m h1 (by omega), K⟩
                case measure => simp [intOf]; omega
              · have HOFF := Lib.hid (show goesA l e.task k = false from by rw [HXE.out, hax]; simp [htk])
                have ht1 : (x.task == e.task) = false := by simpa using htk
                clear hax htk
                go_wp2_with fail
                refine wp_region_held_drew (S := (fun w' => w'.cell? (ad.add (k * 6)) = some (.int .i64 x.kind) ∧ w'.cell? ⟨(ad.add (k * 6)).block, (ad.add (k * 6)).off + 1, none⟩ = some (.int .i64 x.time) ∧ w'.cell? ⟨(ad.add (k * 6)).block, (ad.add (k * 6)).off + 2, none⟩ = some (.int .i64 x.task) ∧ w'.cell? ⟨(ad.add (k * 6)).block, (ad.add (k * 6)).off + 3, none⟩ = some (.int .i64 x.n) ∧ w'.cell? ⟨(ad.add (k * 6)).block, (ad.add (k * 6)).off + 4, none⟩ = some (.int .i16 x.value) ∧ w'.cell? ⟨(ad.add (k * 6)).block, (ad.add (k * 6)).off + 5, none⟩ = some (.int .i64 x.port) ∧ w'.cell? ⟨X, 2, none⟩ = some (.int .i64 e.task))) (by kernel_rfl) ?_ (fun hHeld => ?_)
                · exact ⟨EK.c0, EK.c1, EK.c2, EK.c3, EK.c4, EK.c5, K.ax.c2⟩
                change wpAnyH _ _ _ _ _ 21 #[false, false, false, false, false, false, false, false, false, false, false, false, false, false, false, false, false, false, false, false, false] _ _
                refine wpAnyH_take (i := 0) (oi := ⟨some 21, _, _, _, _, _⟩) (v := ?_) rfl (by kernel_rfl) (by kernel_rfl) (by kernel_rfl) (fun _ _ _ h => h) (Or.inl ⟨by rfl, ?_⟩) (by assumption) ?_
                rotate_left
                · first | (intro w hSw; (try dsimp only at hSw); go_simp; done) | (intro w hSw; (try dsimp only at hSw); go_simp; with_reducible rfl)
                try simp only [Act.put, List.setIfInBounds_toArray, List.set_cons_zero, List.set_cons_succ]
                refine wpAnyH_take (i := 1) (oi := ⟨some 22, _, _, _, _, _⟩) (v := ?_) rfl (by kernel_rfl) (by kernel_rfl) (by kernel_rfl) (fun _ _ _ h => h) (Or.inl ⟨by rfl, ?_⟩) (by assumption) ?_
                rotate_left
                · first | (intro w hSw; (try dsimp only at hSw); go_simp; done) | (intro w hSw; (try dsimp only at hSw); go_simp; with_reducible rfl)
                try simp only [Act.put, List.setIfInBounds_toArray, List.set_cons_zero, List.set_cons_succ]
                refine wpAnyH_take (i := 2) (oi := ⟨some 23, _, _, _, _, _⟩) (v := ?_) rfl (by kernel_rfl) (by kernel_rfl) (by kernel_rfl) (fun _ _ _ h => h) (Or.inl ⟨by rfl, ?_⟩) (by assumption) ?_
                rotate_left
                · first | (intro w hSw; (try dsimp only at hSw); go_simp; done) | (intro w hSw; (try dsimp only at hSw); go_simp; with_reducible rfl)
                try simp only [Act.put, List.setIfInBounds_toArray, List.set_cons_zero, List.set_cons_succ]
                refine wpAnyH_take (i := 3) (oi := ⟨some 24, _, _, _, _, _⟩) (v := ?_) rfl (by kernel_rfl) (by kernel_rfl) (by kernel_rfl) (fun _ _ _ h => h) (Or.inl ⟨by rfl, ?_⟩) (by assumption) ?_
                rotate_left
                · first | (intro w hSw; (try dsimp only at hSw); go_simp; done) | (intro w hSw; (try dsimp only at hSw); go_simp; with_reducible rfl)
                try simp only [Act.put, List.setIfInBounds_toArray, List.set_cons_zero, List.set_cons_succ]
                refine wpAnyH_take (i := 4) (oi := ⟨some 25, _, _, _, _, _⟩) (v := ?_) rfl (by kernel_rfl) (by kernel_rfl) (by kernel_rfl) (fun _ _ _ h => h) (Or.inl ⟨by rfl, ?_⟩) (by assumption) ?_
                rotate_left
                · first | (intro w hSw; (try dsimp only at hSw); go_simp; done) | (intro w hSw; (try dsimp only at hSw); go_simp; with_reducible rfl)
                try simp only [Act.put, List.setIfInBounds_toArray, List.set_cons_zero, List.set_cons_succ]
                refine wpAnyH_take (i := 5) (oi := ⟨some 26, _, _, _, _, _⟩) (v := ?_) rfl (by kernel_rfl) (by kernel_rfl) (by kernel_rfl) (fun _ _ _ h => h) (Or.inl ⟨by rfl, ?_⟩) (by assumption) ?_
                rotate_left
                · first | (intro w hSw; (try dsimp only at hSw); go_simp; done) | (intro w hSw; (try dsimp only at hSw); go_simp; with_reducible rfl)
                try simp only [Act.put, List.setIfInBounds_toArray, List.set_cons_zero, List.set_cons_succ]
                refine wpAnyH_take (i := 6) (oi := ⟨some 27, _, _, _, _, _⟩) (v := ?_) rfl (by kernel_rfl) (by kernel_rfl) (by kernel_rfl) (fun _ _ _ h => h) (Or.inl ⟨by rfl, ?_⟩) (by assumption) ?_
                rotate_left
                · first | (intro w hSw; (try dsimp only at hSw); go_simp; done) | (intro w hSw; (try dsimp only at hSw); go_simp; with_reducible rfl)
                try simp only [Act.put, List.setIfInBounds_toArray, List.set_cons_zero, List.set_cons_succ]
                refine wpAnyH_take (i := 7) (oi := ⟨some 28, _, _, _, _, _⟩) (v := ?_) rfl (by kernel_rfl) (by kernel_rfl) (by kernel_rfl) (fun _ _ _ h => h) (Or.inl ⟨by rfl, ?_⟩) (by assumption) ?_
                rotate_left
                · first | (intro w hSw; (try dsimp only at hSw); go_simp; done) | (intro w hSw; (try dsimp only at hSw); go_simp; with_reducible rfl)
                try simp only [Act.put, List.setIfInBounds_toArray, List.set_cons_zero, List.set_cons_succ]
                refine wpAnyH_take (i := 8) (oi := ⟨some 29, _, _, _, _, _⟩) (v := ?_) rfl (by kernel_rfl) (by kernel_rfl) (by kernel_rfl) (fun _ _ _ h => h) (Or.inl ⟨by rfl, ?_⟩) (by assumption) ?_
                rotate_left
                · first | (intro w hSw; (try dsimp only at hSw); go_simp; done) | (intro w hSw; (try dsimp only at hSw); go_simp; with_reducible rfl)
                try simp only [Act.put, List.setIfInBounds_toArray, List.set_cons_zero, List.set_cons_succ]
                refine wpAnyH_ready (rs := [9]) (by kernel_rfl) (by simp) (AllReadyH.cons (o := ⟨some 30, _, _, _, _, _⟩) rfl (fun KX hKX => ?_) AllReadyH.nil)
                go_simp
                (with_reducible refine (inner_c x _ HAX.out).mono ?_); rintro r w7 ⟨rfl, hb7⟩; replace K := K.next hb7; replace EK := EK.next hb7; go_wp2_with fail
                refine hKX.out _ _ ?_ (fun hHeld => ?_)
                · exact ⟨EK.c0, EK.c1, EK.c2, EK.c3, EK.c4, EK.c5, K.ax.c2⟩
                clear hKX KX
                try simp only [List.setIfInBounds_toArray, List.set_cons_zero, List.set_cons_succ]
                refine wpAnyH_take (i := 10) (oi := ⟨some 31, _, _, _, _, _⟩) (v := ?_) rfl (by kernel_rfl) (by kernel_rfl) (by kernel_rfl) (fun _ _ _ h => h) (Or.inl ⟨by rfl, ?_⟩) (by assumption) ?_
                rotate_left
                · first | (intro w hSw; (try dsimp only at hSw); go_simp; done) | (intro w hSw; (try dsimp only at hSw); go_simp; with_reducible rfl)
                try simp only [Act.put, List.setIfInBounds_toArray, List.set_cons_zero, List.set_cons_succ]
                refine wpAnyH_take (i := 11) (oi := ⟨some 32, _, _, _, _, _⟩) (v := ?_) rfl (by kernel_rfl) (by kernel_rfl) (by kernel_rfl) (fun _ _ _ h => h) (Or.inl ⟨by rfl, ?_⟩) (by assumption) ?_
                rotate_left
                · first | (intro w hSw; (try dsimp only at hSw); go_simp; done) | (intro w hSw; (try dsimp only at hSw); go_simp; with_reducible rfl)
                try simp only [Act.put, List.setIfInBounds_toArray, List.set_cons_zero, List.set_cons_succ]
                refine wpAnyH_take (i := 12) (oi := ⟨some 33, _, _, _, _, _⟩) (v := ?_) rfl (by kernel_rfl) (by kernel_rfl) (by kernel_rfl) (fun _ _ _ h => h) (Or.inl ⟨by rfl, ?_⟩) (by assumption) ?_
                rotate_left
                · first | (intro w hSw; (try dsimp only at hSw); go_simp; done) | (intro w hSw; (try dsimp only at hSw); go_simp; with_reducible rfl)
                try simp only [Act.put, List.setIfInBounds_toArray, List.set_cons_zero, List.set_cons_succ]
                refine wpAnyH_take (i := 13) (oi := ⟨some 34, _, _, _, _, _⟩) (v := ?_) rfl (by kernel_rfl) (by kernel_rfl) (by kernel_rfl) (fun _ _ _ h => h) (Or.inl ⟨by rfl, ?_⟩) (by assumption) ?_
                rotate_left
                · first | (intro w hSw; (try dsimp only at hSw); go_simp; done) | (intro w hSw; (try dsimp only at hSw); go_simp; with_reducible rfl)
                try simp only [Act.put, List.setIfInBounds_toArray, List.set_cons_zero, List.set_cons_succ]
                refine wpAnyH_take (i := 14) (oi := ⟨some 35, _, _, _, _, _⟩) (v := ?_) rfl (by kernel_rfl) (by kernel_rfl) (by kernel_rfl) (fun _ _ _ h => h) (Or.inl ⟨by rfl, ?_⟩) (by assumption) ?_
                rotate_left
                · first | (intro w hSw; (try dsimp only at hSw); go_simp; done) | (intro w hSw; (try dsimp only at hSw); go_simp; with_reducible rfl)
                try simp only [Act.put, List.setIfInBounds_toArray, List.set_cons_zero, List.set_cons_succ]
                refine wpAnyH_take (i := 15) (oi := ⟨some 36, _, _, _, _, _⟩) (v := ?_) rfl (by kernel_rfl) (by kernel_rfl) (by kernel_rfl) (fun _ _ _ h => h) (Or.inl ⟨by rfl, ?_⟩) (by assumption) ?_
                rotate_left
                · first | (intro w hSw; (try dsimp only at hSw); go_simp; done) | (intro w hSw; (try dsimp only at hSw); go_simp; with_reducible rfl)
                try simp only [Act.put, List.setIfInBounds_toArray, List.set_cons_zero, List.set_cons_succ]
                refine wpAnyH_take (i := 16) (oi := ⟨some 37, _, _, _, _, _⟩) (v := ?_) rfl (by kernel_rfl) (by kernel_rfl) (by kernel_rfl) (fun _ _ _ h => h) (Or.inl ⟨by rfl, ?_⟩) (by assumption) ?_
                rotate_left
                · first | (intro w hSw; (try dsimp only at hSw); go_simp; done) | (intro w hSw; (try dsimp only at hSw); go_simp; with_reducible rfl)
                try simp only [Act.put, List.setIfInBounds_toArray, List.set_cons_zero, List.set_cons_succ]
                refine wpAnyH_take (i := 17) (oi := ⟨some 38, _, _, _, _, _⟩) (v := ?_) rfl (by kernel_rfl) (by kernel_rfl) (by kernel_rfl) (fun _ _ _ h => h) (Or.inl ⟨by rfl, ?_⟩) (by assumption) ?_
                rotate_left
                · first | (intro w hSw; (try dsimp only at hSw); go_simp; done) | (intro w hSw; (try dsimp only at hSw); go_simp; with_reducible rfl)
                try simp only [Act.put, List.setIfInBounds_toArray, List.set_cons_zero, List.set_cons_succ]
                refine wpAnyH_take (i := 18) (oi := ⟨some 39, _, _, _, _, _⟩) (v := ?_) rfl (by kernel_rfl) (by kernel_rfl) (by kernel_rfl) (fun _ _ _ h => h) (Or.inl ⟨by rfl, ?_⟩) (by assumption) ?_
                rotate_left
                · first | (intro w hSw; (try dsimp only at hSw); go_simp; done) | (intro w hSw; (try dsimp only at hSw); go_simp; with_reducible rfl)
                try simp only [Act.put, List.setIfInBounds_toArray, List.set_cons_zero, List.set_cons_succ]
                refine wpAnyH_take (i := 19) (oi := ⟨some 40, _, _, _, _, _⟩) (v := ?_) rfl (by kernel_rfl) (by kernel_rfl) (by kernel_rfl) (fun _ _ _ h => h) (Or.inl ⟨by rfl, ?_⟩) (by assumption) ?_
                rotate_left
                · first | (intro w hSw; (try dsimp only at hSw); go_simp; done) | (intro w hSw; (try dsimp only at hSw); go_simp; with_reducible rfl)
                try simp only [Act.put, List.setIfInBounds_toArray, List.set_cons_zero, List.set_cons_succ]
                refine wpAnyH_take (i := 20) (oi := ⟨some 41, _, _, _, _, _⟩) (v := ?_) rfl (by kernel_rfl) (by kernel_rfl) (by kernel_rfl) (fun _ _ _ h => h) (Or.inl ⟨by rfl, ?_⟩) (by assumption) ?_
                rotate_left
                · first | (intro w hSw; (try dsimp only at hSw); go_simp; done) | (intro w hSw; (try dsimp only at hSw); go_simp; with_reducible rfl)
                try simp only [Act.put, List.setIfInBounds_toArray, List.set_cons_zero, List.set_cons_succ]
                refine wpAnyH_done (by kernel_rfl) ?_ _
                go_wp2_with fail
                go_meet
                exact ⟨k, rfl, ⟨hik, HGO.out, HOFF.out⟩, K⟩
          · obtain rfl : k = l.length := by omega
            have HOFF := Lib.hid (goes_none (l := l) (t := e.task) (Nat.le_refl l.length))
            clear hgo
            go_wp2_with fail
            go_quiet (fail)
            go_wp2_with fail
            go_meet
            exact ⟨l.length, rfl, ⟨hik, HGO.out, HOFF.out⟩, K.next (below_drewN _ _)⟩
      case rest =>
        obtain ⟨k, rfl, hend, K⟩ := hcut
        have hkl := isEnd_le hend (by omega)
        have HEND := Lib.hid hend
        obtain ⟨c, hc⟩ : ∃ c, comA l e.task k = c := ⟨_, rfl⟩
        have HCM := Lib.hid hc
        clear hend hc
        have HKC := Lib.hid (K.setC c)
        go_upto_region 9 with fail
        go_cut [] from 7 to 88 (fun wx => AS w 47 o u3 X i 0 e.task c wx)
        case first =>
          by_cases hlt2 : k < l.length
          · have HX := Lib.hid (List.getElem?_eq_getElem hlt2)
            obtain ⟨ad', q, EK⟩ := (HC.out.next K.below).at_ k _ HX.out
            cases q
            generalize l[k] = x at *
            have hcm := HCM.out
            rw [com_at HX.out] at hcm
            obtain ⟨_, _, _, _, _, x0, x1, x2, x3, xf⟩ := K
            have xf3 := xf 3
            obtain ⟨_, d0, d1, d2, d3, d4, d5⟩ := EK
            by_cases hx5 : x.kind = 5
            · by_cases htk : x.task = e.task
              · obtain rfl : true = c := by rw [← hcm]; simp [comK, hx5, htk]
                have q1 : (x.kind == 5) = true := by simpa using hx5
                have q2 : (x.task == e.task) = true := by simpa using htk
                clear hcm hx5 htk xf
                go_wp2_with fail
                go_region
                go_wp2_with fail
                go_meet
                exact HKC.out.next (World.drewB _)
              · obtain rfl : false = c := by rw [← hcm]; simp [htk]
                have q1 : (x.kind == 5) = true := by simpa using hx5
                have q2 : (x.task == e.task) = false := by simpa using htk
                clear hcm hx5 htk xf
                go_wp2_with fail
                go_region
                go_wp2_with fail
                go_meet
                exact HKC.out.next (World.drewB _)
            · obtain rfl : false = c := by rw [← hcm]; simp [comK, hx5]
              have q1 : (x.kind == 5) = false := by simpa using hx5
              clear hcm hx5 xf
              go_wp2_with fail
              go_region
              go_wp2_with fail
              go_meet
              exact HKC.out.next (World.drewB _)
          · obtain rfl : k = l.length := by omega
            obtain rfl : false = c := by rw [← HCM.out]; exact (com_none (Nat.le_refl _)).symm
            obtain ⟨_, _, _, _, _, x0, x1, x2, x3, xf⟩ := K
            have xf3 := xf 3
            clear xf
            go_wp2_with fail
            go_region
            go_wp2_with fail
            go_meet
            exact HKC.out.next (World.drewB _)
        case rest =>
          have K := hcut
          clear hcut HKC
          have hik := HEND.out.le
          cases c
          · by_cases hki : k = i
            · obtain rfl := hki
              have HS := Lib.hid (atsL_skip HE.out (not_beg_of HE.out HEND.out HCM.out))
              have HKB := Lib.hid K
              obtain ⟨_, _, _, _, _, x0, x1, x2, x3, xf⟩ := K
              clear xf
              go_wp2_with fail
              go_roundw
              case rel => exact ⟨k + 1, o, by omega, by go_num, by rw [← HS.out]; exact HO.out, by omega, HKB.out.below, HKB.out.own⟩
              case measure => simp [intOf]; omega
            · have hpos : i < k := by omega
              have hbe := beg_of HE.out HEND.out (.inl hpos)
              obtain ⟨m, rfl⟩ : ∃ m, k = m + 1 := ⟨k - 1, by omega⟩
              have HTK := Lib.hid (atsL_take HE.out hbe HEND.out HCM.out)
              have HKT := Lib.hid ((K.setT (m + 1)).setT m)
              have hne1 : ¬ (m : Int) + 1 = (i : Int) := by omega
              have hne2 : ((m : Int) + 1 == (i : Int)) = false := by simpa using hne1
              have HN := news_at ((wc.setCell ⟨X, 1, none⟩ (.int .i64 ((m : Int) + 1))).setCell ⟨X, 1, none⟩ (.int .i64 m)) ⟨i, m, e.task, false⟩ 47
              rw [World.size_setCell, World.size_setCell] at HN
              clear hbe hki
              have HNH := Lib.hid HN
              obtain ⟨_, _, _, _, _, x0, x1, x2, x3, xf⟩ := K
              have xf1 := xf 1
              have hoI := HT.out
              have hm80 : (m : Int) ≤ 80 := by omega
              clear HN xf
              go_wp2_with (at_builtin; refine wpList_append_own _ rfl (.tmp 83) (.tmp 85) 44 rfl w.heap.size 47 i47 (.agg #[.int .i64 0, .int .i64 0, .int .i64 0, .bool false]) 4 32 Tryd.underlying44 hti hz0 hz1 hz2 rfl (by decide) _ _ _ rfl (HKT.out.own.alloc _) ⟨wc.heap.size, 0, none⟩ 1 1 (cellsA ⟨i, m, e.task, false⟩) rfl rfl HNH.out (one_at _) (by unfold maxLen; omega) (by omega) (by simp; omega) ?_; intro v1 w7 hown1 hgrow1 hnil1; have z0 := AS.grown HKT.out hgrow1)
              have HBW := Lib.hid (show Below w.heap.size w w7 from (HKT.out.below.alloc (HKT.out.below.size) _).grown hgrow1 (by have := HKT.out.below.size; simp at this ⊢; omega) (fun j hj => ((HKT.out.own.lt j hj).1)))
              have hown2 : w7.ownsRow w.heap.size 47 4 v1 (o ++ [(⟨i, m, e.task, false⟩ : At)]).length (flatA (o ++ [(⟨i, m, e.task, false⟩ : At)])) := by rw [flatA_snoc, List.length_append, List.length_singleton]; exact hown1
              have HOW2 := Lib.hid hown2
              clear hown1 hown2 hgrow1 hnil1 x0 x1 x2 x3 xf1
              go_wp2_with fail
              go_roundw
              case rel => exact ⟨m + 1, o ++ [(⟨i, m, e.task, false⟩ : At)], by omega, by go_num, by rw [← HO.out, HTK.out, List.append_assoc]; simp, by rw [List.length_append, List.length_singleton]; omega, HBW.out, HOW2.out⟩
              case measure => simp [intOf]; omega
          · have hbe := beg_of HE.out HEND.out (.inr HCM.out)
            have HTK := Lib.hid (atsL_take HE.out hbe HEND.out HCM.out)
            have hkl2 := com_lt HCM.out
            have HKT := Lib.hid (K.setT k)
            have HN := news_at (wc.setCell ⟨X, 1, none⟩ (.int .i64 k)) ⟨i, k, e.task, true⟩ 47
            rw [World.size_setCell] at HN
            clear hbe
            by_cases hki : k = i
            · have hki1 : ((k : Int) == (i : Int)) = true := by simp [hki]
              clear hki
              have HNH := Lib.hid HN
              obtain ⟨_, _, _, _, _, x0, x1, x2, x3, xf⟩ := K
              have xf1 := xf 1
              have hoI := HT.out
              have hm80 : (k : Int) ≤ 80 := by omega
              clear HN xf
              go_wp2_with (at_builtin; refine wpList_append_own _ rfl (.tmp 83) (.tmp 85) 44 rfl w.heap.size 47 i47 (.agg #[.int .i64 0, .int .i64 0, .int .i64 0, .bool false]) 4 32 Tryd.underlying44 hti hz0 hz1 hz2 rfl (by decide) _ _ _ rfl (HKT.out.own.alloc _) ⟨wc.heap.size, 0, none⟩ 1 1 (cellsA ⟨i, k, e.task, true⟩) rfl rfl HNH.out (one_at _) (by unfold maxLen; omega) (by omega) (by simp; omega) ?_; intro v1 w7 hown1 hgrow1 hnil1; have z0 := AS.grown HKT.out hgrow1)
              have HBW := Lib.hid (show Below w.heap.size w w7 from (HKT.out.below.alloc (HKT.out.below.size) _).grown hgrow1 (by have := HKT.out.below.size; simp at this ⊢; omega) (fun j hj => ((HKT.out.own.lt j hj).1)))
              have hown2 : w7.ownsRow w.heap.size 47 4 v1 (o ++ [(⟨i, k, e.task, true⟩ : At)]).length (flatA (o ++ [(⟨i, k, e.task, true⟩ : At)])) := by rw [flatA_snoc, List.length_append, List.length_singleton]; exact hown1
              have HOW2 := Lib.hid hown2
              clear hown1 hown2 hgrow1 hnil1 x0 x1 x2 x3 xf1
              go_wp2_with fail
              go_roundw
              case rel => exact ⟨k + 1, o ++ [(⟨i, k, e.task, true⟩ : At)], by omega, by go_num, by rw [← HO.out, HTK.out, List.append_assoc]; simp, by rw [List.length_append, List.length_singleton]; omega, HBW.out, HOW2.out⟩
              case measure => simp [intOf]; omega
            · have hki1 : ((k : Int) == (i : Int)) = false := by simp; omega
              have hki2 : ¬ (k : Int) = (i : Int) := by omega
              clear hki
              have HNH := Lib.hid HN
              obtain ⟨_, _, _, _, _, x0, x1, x2, x3, xf⟩ := K
              have xf1 := xf 1
              have hoI := HT.out
              have hm80 : (k : Int) ≤ 80 := by omega
              clear HN xf
              go_wp2_with (at_builtin; refine wpList_append_own _ rfl (.tmp 83) (.tmp 85) 44 rfl w.heap.size 47 i47 (.agg #[.int .i64 0, .int .i64 0, .int .i64 0, .bool false]) 4 32 Tryd.underlying44 hti hz0 hz1 hz2 rfl (by decide) _ _ _ rfl (HKT.out.own.alloc _) ⟨wc.heap.size, 0, none⟩ 1 1 (cellsA ⟨i, k, e.task, true⟩) rfl rfl HNH.out (one_at _) (by unfold maxLen; omega) (by omega) (by simp; omega) ?_; intro v1 w7 hown1 hgrow1 hnil1; have z0 := AS.grown HKT.out hgrow1)
              have HBW := Lib.hid (show Below w.heap.size w w7 from (HKT.out.below.alloc (HKT.out.below.size) _).grown hgrow1 (by have := HKT.out.below.size; simp at this ⊢; omega) (fun j hj => ((HKT.out.own.lt j hj).1)))
              have hown2 : w7.ownsRow w.heap.size 47 4 v1 (o ++ [(⟨i, k, e.task, true⟩ : At)]).length (flatA (o ++ [(⟨i, k, e.task, true⟩ : At)])) := by rw [flatA_snoc, List.length_append, List.length_singleton]; exact hown1
              have HOW2 := Lib.hid hown2
              clear hown1 hown2 hgrow1 hnil1 x0 x1 x2 x3 xf1
              go_wp2_with fail
              go_roundw
              case rel => exact ⟨k + 1, o ++ [(⟨i, k, e.task, true⟩ : At)], by omega, by go_num, by rw [← HO.out, HTK.out, List.append_assoc]; simp, by rw [List.length_append, List.length_singleton]; omega, HBW.out, HOW2.out⟩
              case measure => simp [intOf]; omega
    · obtain rfl : i = l.length := by omega
      rw [atsL_end (Nat.le_refl _), List.append_nil] at HO
      go_wp2_with fail
      go_ret
      obtain ⟨A', cap', rfl, C'⟩ := Atts.of_own hown
      have q := HO.out
      subst q
      exact ⟨A', cap', rfl, C', hb, fun ad e => (hown.lt _ (by subst e; rfl)).1⟩
end Go.Proofs.YtdfconiahfdhbaaDoor
