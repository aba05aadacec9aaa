/- SchemaStays walked: what its guard leaves out, and all together. -/
import Derived.Test.YtkggdnnhgafopaaDoorLawH
set_option linter.unusedVariables false
set_option linter.unusedSimpArgs false
namespace Go.Proofs.YtkggdnnhgafopaaDoor
open Go.RowKit Go.Lib Go.Shelf Go.Proofs.YtkggdnnhgafopaaDoorW.PrintWords Go.Proofs.YtkggdnnhgafopaaDoorW.PrintLast Go.Proofs.YtkggdnnhgafopaaDoorW.PrintMore Go.Proofs.YtkggdnnhgafopaaDoor.Kp Go.Proofs.YtkggdnnhgafopaaDoor.Gp Go.Proofs.YtkggdnnhgafopaaDoor.Jp Go.Proofs.YtkggdnnhgafopaaDoor.Lp
set_option maxRecDepth 100000 in
set_option maxHeartbeats 8000000 in
theorem stays_out (A0 : Option Addr) (c0 : Nat) (l0 : List S25) (x : S25) (t : ByteArray) (w : World) (hr0 : Kd.C k25 w A0 l0.length l0) (hc0 : l0.length ≤ c0) (b1 b2 b3 : Bool) (hs : smallB l0 = b1) (hx : decide (100 < x.f1.size) = b2) (ht : decide (100 < t.size) = b3) (hb : (!b1 || b2 || b3) = true) :
    Calls Tryd.prog 4 #[.slice A0 l0.length c0, .agg #[.int .i64 x.f0, .string x.f1, .int .i64 x.f2], .string t] w fun e w' => e = .returned (.bool true) ∧ Below w.heap.size w w' := by
  have hsm := fun W h => smallC A0 c0 l0 hc0 W h
  rw [hs] at hsm
  have T := Lib.hid (hold_new hr0 x)
  have e2 : decide ((x.f1.size : Int) > 100) = b2 := by rw [← hx]; exact decide_eq_decide.2 (by omega)
  have e2' : decide ((100 : Int) < (x.f1.size : Int)) = b2 := by rw [← hx]; exact decide_eq_decide.2 (by omega)
  have e3 : decide ((t.size : Int) > 100) = b3 := by rw [← ht]; exact decide_eq_decide.2 (by omega)
  have e3' : decide ((100 : Int) < (t.size : Int)) = b3 := by rw [← ht]; exact decide_eq_decide.2 (by omega)
  clear hr0 hs hx ht
  cases b1 <;> cases b2 <;> cases b3 <;> first | (exfalso; revert hb; decide) | skip
  all_goals clear hb
  all_goals go_enter Tryd.func4, Tryd.ntmps4
  all_goals go_wp2_with (first | (go_at_call 6; refine (hsm _ (hold_at T.out (by simp))).mono ?_; rintro e w2 ⟨rfl, hb⟩; have T := Lib.hid (hold_below T.out hb); obtain ⟨t0, t1, t2, t3, _⟩ := T.out.1; clear hb) | (go_at_call 7; refine (aliveC _).mono ?_; rintro e w2 ⟨rfl, hb⟩; have T := Lib.hid (hold_below T.out hb); obtain ⟨t0, t1, t2, t3, _⟩ := T.out.1; clear hb))
  all_goals go_ret
  all_goals exact ⟨by simp, boxed_below_of T.out.1⟩
set_option maxRecDepth 100000 in
set_option maxHeartbeats 8000000 in
theorem stays_wrong (A0 : Option Addr) (c0 : Nat) (l0 : List S25) (x : S25) (t : ByteArray) (w : World) (hr0 : Kd.C k25 w A0 l0.length l0) (hc0 : l0.length ≤ c0) (hs : smallB l0 = true) (hx : x.f1.size ≤ 100) (ht : t.size ≤ 100) (hg : rightB l0 = false) :
    Calls Tryd.prog 4 #[.slice A0 l0.length c0, .agg #[.int .i64 x.f0, .string x.f1, .int .i64 x.f2], .string t] w fun e w' => e = .returned (.bool true) ∧ Below w.heap.size w w' := by
  have hsm := fun W h => smallC A0 c0 l0 hc0 W h
  rw [hs] at hsm
  have hrt := fun (W : World) (h : Kd.C k25 W A0 l0.length l0) => schema_Schema_Right.calls A0 c0 l0 false W h hc0 (by unfold schema_Schema_Right.f; rw [if_pos (namesOk_of (small_parts hs).2), hg])
  have T := Lib.hid (hold_new hr0 x)
  have d1 : decide ((x.f1.size : Int) > 100) = false := decide_eq_false (by omega)
  have d1' : decide ((100 : Int) < (x.f1.size : Int)) = false := decide_eq_false (by omega)
  have d2 : decide ((t.size : Int) > 100) = false := decide_eq_false (by omega)
  have d2' : decide ((100 : Int) < (t.size : Int)) = false := decide_eq_false (by omega)
  clear hr0 hs hg
  go_enter Tryd.func4, Tryd.ntmps4
  go_wp2_with (first | (go_at_call 6; refine (hsm _ (hold_at T.out (by simp))).mono ?_; rintro e w2 ⟨rfl, hb⟩; have T := Lib.hid (hold_below T.out hb); obtain ⟨t0, t1, t2, t3, _⟩ := T.out.1; clear hb) | (go_at_call 17; refine (hrt _ (hold_at T.out (by simp))).mono ?_; rintro e w2 ⟨rfl, hb⟩; have T := Lib.hid (hold_below T.out hb); obtain ⟨t0, t1, t2, t3, _⟩ := T.out.1; clear hb) | (go_at_call 7; refine (aliveC _).mono ?_; rintro e w2 ⟨rfl, hb⟩; have T := Lib.hid (hold_below T.out hb); obtain ⟨t0, t1, t2, t3, _⟩ := T.out.1; clear hb))
  go_ret
  exact ⟨by simp, boxed_below_of T.out.1⟩
theorem stays_facts (c0 b0 o0 : Nat) (l0 : List S25) (x : S25) (t : ByteArray) (hc0 : l0.length ≤ c0) (hs : smallB l0 = true) (hx : x.f1.size ≤ 100) (ht : t.size ≤ 100) (hg : rightB l0 = true) :
    Facts c0 b0 o0 l0 x t (addB l0 x).1 (dropB l0 x.f1).1 (renameB l0 x.f1 t).1 (widenB l0 x.f1 x.f2).1 (addB l0 x).2 (dropB l0 x.f1).2 (renameB l0 x.f1 t).2 (widenB l0 x.f1 x.f2).2 ((addB l0 x).2 == 0) ((dropB l0 x.f1).2 == 0) ((renameB l0 x.f1 t).2 == 0) ((widenB l0 x.f1 x.f2).2 == 0) := by
  obtain ⟨hl, hn⟩ := small_parts hs
  have hgood := (rightB_iff l0).1 hg
  refine ⟨hl, hgood.1, hx, ht, fun W h => addC _ c0 l0 x hc0 (by omega) W h, fun W h => dropC _ c0 l0 x.f1 hc0 (by omega) W h, fun W h => renameC _ c0 l0 x.f1 t hc0 (by omega) (by omega) W h, fun W h => widenC _ c0 l0 x.f1 x.f2 hc0 (by omega) W h, fun W h => ?_, fun W h => rightC _ c0 l0 hc0 hn hg W h, rfl, rfl, rfl, rfl, ?_, fun hb => (stays_drop hgood).1 (beq_iff_eq.1 hb), fun hb => (stays_rename hgood).1 (beq_iff_eq.1 hb), fun hb => stays_widen hgood (beq_iff_eq.1 hb), names_add hn hx, names_drop hn, names_rename hn ht, names_widen hn, ?_, ?_⟩
  · have := smallC (some ⟨b0, o0, none⟩) c0 l0 hc0 W h
    rw [hs] at this
    exact this
  · intro hb
    obtain ⟨e1, e2⟩ := stays_add hgood (beq_iff_eq.1 hb)
    rw [e1]
    refine ⟨e2, by simp, ?_, fun i hi => ?_⟩
    · rw [rd_at _ _ (by simp)]; simp
    · rw [rd_at _ i (by simp; omega), rd_at _ i hi, List.getElem_append_left hi]
  · exact decide_eq_false (by have := (stays_drop (n := x.f1) hgood).2; omega)
  · exact decide_eq_false (by have := (stays_rename (a := x.f1) (b := t) hgood).2; omega)
theorem stays_true (A0 : Option Addr) (c0 : Nat) (l0 : List S25) (x : S25) (t : ByteArray) (w : World) (hr0 : Kd.C k25 w A0 l0.length l0) (hc0 : l0.length ≤ c0) :
    Calls Tryd.prog 4 #[.slice A0 l0.length c0, .agg #[.int .i64 x.f0, .string x.f1, .int .i64 x.f2], .string t] w fun e w' => e = .returned (.bool true) ∧ Below w.heap.size w w' := by
  by_cases h : smallB l0 = true ∧ x.f1.size ≤ 100 ∧ t.size ≤ 100
  · obtain ⟨hs, hx, ht⟩ := h
    cases hg : rightB l0 with
    | false => exact stays_wrong A0 c0 l0 x t w hr0 hc0 hs hx ht hg
    | true =>
      obtain ⟨b0, o0, rfl⟩ := located hr0 (by have := ((rightB_iff l0).1 hg).1; omega)
      exact stays_main c0 b0 o0 l0 x t w hr0 hc0 _ _ _ _ _ _ _ _ _ _ _ _ (stays_facts c0 b0 o0 l0 x t hc0 hs hx ht hg)
  · refine stays_out A0 c0 l0 x t w hr0 hc0 _ _ _ rfl rfl rfl ?_
    cases hs : smallB l0 with
    | false => rfl
    | true =>
      rw [hs] at h
      by_cases hx : x.f1.size ≤ 100
      · have ht : 100 < t.size := by
          rcases Nat.lt_or_ge 100 t.size with h4 | h4
          · exact h4
          · exact absurd ⟨rfl, hx, h4⟩ h
        rw [decide_eq_true ht]; simp
      · rw [decide_eq_true (show 100 < x.f1.size by omega)]; simp
end Go.Proofs.YtkggdnnhgafopaaDoor
