/-
  TraceParses.
-/
import Derived.Test.YtdfconiahfdhbaaDoorRpa
import Derived.Test.YtdfconiahfdhbaaDoorAwk
namespace Go.Proofs.YtdfconiahfdhbaaDoor
open Go.RowKit
attribute [local go_sem ↓] Go.wp_at_zero Go.wp_at_succ
set_option maxRecDepth 100000 in
set_option maxHeartbeats 4000000 in
theorem traceParses_w (s : ByteArray) (hsm : s.size ≤ 140737488351232) (w : World) (hr : Rdy w) : Calls Tryd.prog 4 #[.string s] w fun e w' => e = .returned (.bool true) ∧ Below w.heap.size w w' := by
  have HRD := Lib.hid (fun W (hb : Below w.heap.size w W) => hr.next hb)
  go_enter Tryd.func4, Tryd.ntmps4
  go_wp2_with fail
  refine (awake_c _ hr).mono ?_
  rintro e w1 ⟨rfl, hb1⟩
  have HB1 := Lib.hid hb1
  clear hb1
  by_cases h2k : 2000 < s.size
  · have h2kI : (2000 : Int) < (s.size : Int) := by omega
    go_wp2_with fail
    go_ret
    exact ⟨rfl, HB1.out⟩
  · have h2kI : ¬ (2000 : Int) < (s.size : Int) := by omega
    go_wp2_with fail
    refine (parse_c s (by omega) _ (HRD.out _ HB1.out)).mono ?_
    rintro e w2 ⟨l, rest, hs1, hv1, hc1, hb2⟩
    have hlen : l.length ≤ 2000 := by
      have h1 := line_pos l
      have h2 := congrArg List.length hs1
      rw [List.length_append] at h2
      have h3 : s.data.toList.length = s.size := rfl
      omega
    have HU := Lib.hid (show ∀ (l2 : List Ev) (rest2 : List UInt8), s.data.toList = txt l2 ++ rest2 → Vld l2 → (rest2 = [] ∨ Stuck rest2) → l = l2 ∧ rest = rest2 from fun l2 rest2 h2 hv2 h => txt_uniq l l2 rest rest2 hv1 hv2 (hs1.symm.trans h2) (by
      rcases hc1 with ⟨h, _⟩ | ⟨_, h, _⟩
      · exact .inl h
      · exact .inr h) h)
    have HB2 := Lib.hid (bt HB1.out hb2)
    clear hs1 hv1 hb2
    rcases hc1 with ⟨rfl, A, cap, rfl, hE⟩ | ⟨hne, hst, rfl⟩
    · have HE := Lib.hid hE
      clear hE
      go_wp2_with fail
      refine (rparse_c s (by omega) _).mono ?_
      rintro e w3 ⟨l2, rest2, hs2, hv2, hc2, hb3⟩
      have HB3 := Lib.hid (bt HB2.out hb3)
      have HE3 := Lib.hid (HE.out.next hb3)
      obtain ⟨rfl, rfl⟩ := HU.out l2 rest2 hs2 hv2 (by
        rcases hc2 with ⟨h, _⟩ | ⟨_, h, _⟩
        · exact .inl h
        · exact .inr h)
      clear hs2 hv2 hb3 HE HU
      rcases hc2 with ⟨_, A2, cap2, rfl, hE2⟩ | ⟨h, _⟩
      · have HE2 := Lib.hid hE2
        clear hE2
        go_wp2_with fail
        refine (requal_c l l (by omega) (by omega) A A2 cap cap2 _ HE3.out HE2.out).mono ?_
        rintro e w4 ⟨rfl, hb4⟩
        rw [eqL_yes rfl]
        have HB4 := Lib.hid (bt HB3.out hb4)
        clear hb4
        go_wp2_with fail
        go_ret
        exact ⟨rfl, HB4.out⟩
      · exact absurd rfl h
    · have HNE := Lib.hid hne
      clear hne hst
      go_wp2_with fail
      refine (rparse_c s (by omega) _).mono ?_
      rintro e w3 ⟨l2, rest2, hs2, hv2, hc2, hb3⟩
      have HB3 := Lib.hid (bt HB2.out hb3)
      obtain ⟨rfl, rfl⟩ := HU.out l2 rest2 hs2 hv2 (by
        rcases hc2 with ⟨h, _⟩ | ⟨_, h, _⟩
        · exact .inl h
        · exact .inr h)
      clear hs2 hv2 hb3 HU
      rcases hc2 with ⟨h, _⟩ | ⟨_, _, rfl⟩
      · exact absurd h HNE.out
      · go_wp2_with fail
        refine (requal_c [] [] (by simp) (by simp) none none 0 0 _ (Evs.nil _) (Evs.nil _)).mono ?_
        rintro e w4 ⟨rfl, hb4⟩
        rw [eqL_yes rfl]
        have HB4 := Lib.hid (bt HB3.out hb4)
        clear hb4
        go_wp2_with fail
        go_ret
        exact ⟨rfl, HB4.out⟩
end Go.Proofs.YtdfconiahfdhbaaDoor
