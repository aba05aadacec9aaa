/- SchemaChanges walked: for every list of columns, every column and every text it answers true. -/
import Derived.Test.YtkggdnnhgafopaaDoorLawC
set_option linter.unusedVariables false
set_option linter.unusedSimpArgs false
namespace Go.Proofs.YtkggdnnhgafopaaDoor
open Go.RowKit Go.Lib Go.Shelf Go.Proofs.YtkggdnnhgafopaaDoorW.PrintWords Go.Proofs.YtkggdnnhgafopaaDoorW.PrintLast Go.Proofs.YtkggdnnhgafopaaDoorW.PrintMore Go.Proofs.YtkggdnnhgafopaaDoor.Kp Go.Proofs.YtkggdnnhgafopaaDoor.Gp Go.Proofs.YtkggdnnhgafopaaDoor.Jp Go.Proofs.YtkggdnnhgafopaaDoor.Lp
theorem small_out {l : List S25} (h : smallB l = true) : l.length ≤ 20 ∧ ∀ x ∈ l, x.f1.size ≤ 100 := by
  unfold smallB at h
  rw [Bool.and_eq_true] at h
  exact ⟨of_decide_eq_true h.1, fun x hx => of_decide_eq_true (List.all_eq_true.1 h.2 x hx)⟩
set_option maxRecDepth 100000 in
set_option maxHeartbeats 8000000 in
theorem changes_main (A0 : Option Addr) (c0 : Nat) (l0 : List S25) (x : S25) (t : ByteArray) (w : World) (hr0 : Kd.C k25 w A0 l0.length l0) (hc0 : l0.length ≤ c0) (hs : smallB l0 = true) (hx : x.f1.size ≤ 100) (ht : t.size ≤ 100) :
    Calls Tryd.prog 3 #[.slice A0 l0.length c0, .agg #[.int .i64 x.f0, .string x.f1, .int .i64 x.f2], .string t] w fun e w' => e = .returned (.bool true) ∧ Below w.heap.size w w' := by
  have hl := (small_out hs).1
  have h1 := fun W h => addC A0 c0 l0 x hc0 (by omega) W h
  have h2 := fun W h => refaddC A0 c0 l0 x hc0 (by omega) (by omega) W h
  have h3 := fun W h => dropC A0 c0 l0 x.f1 hc0 (by omega) W h
  have h4 := fun W h => refdropC A0 c0 l0 x.f1 hc0 (by omega) W h
  have h5 := fun W h => renameC A0 c0 l0 x.f1 t hc0 (by omega) (by omega) W h
  have h6 := fun W h => refrenameC A0 c0 l0 x.f1 t hc0 (by omega) (by omega) W h
  have h7 := fun W h => widenC A0 c0 l0 x.f1 x.f2 hc0 (by omega) W h
  have h8 := fun W h => refwidenC A0 c0 l0 x.f1 x.f2 hc0 (by omega) W h
  have hsm := fun W h => smallC A0 c0 l0 hc0 W h
  rw [hs] at hsm
  have q1 : (addB l0 x).1.length ≤ 1000 := by
    unfold addB; repeat' split
    all_goals (simp; try omega)
  have q2 : (dropB l0 x.f1).1.length ≤ 1000 := by
    unfold dropB; repeat' split
    all_goals (simp; try (rw [List.length_eraseIdx]; split <;> omega))
  have q3 : (renameB l0 x.f1 t).1.length ≤ 1000 := by
    unfold renameB; repeat' split
    all_goals (simp; try omega)
  have q4 : (widenB l0 x.f1 x.f2).1.length ≤ 1000 := by
    unfold widenB; repeat' split
    all_goals (simp; try omega)
  generalize addB l0 x = pa at *
  generalize dropB l0 x.f1 = pd at *
  generalize renameB l0 x.f1 t = pr at *
  generalize widenB l0 x.f1 x.f2 = pw at *
  obtain ⟨la, ea⟩ := pa
  obtain ⟨ld, ed⟩ := pd
  obtain ⟨lr, er⟩ := pr
  obtain ⟨lw, ew⟩ := pw
  simp only at *
  have T := Lib.hid (show Hold w x (w.alloc (.cells #[.int .i64 x.f0, .string x.f1, .int .i64 x.f2] 25)) [(A0, l0)] from ⟨boxed_new _ _ _ _, fun p hp => by rcases List.mem_cons.1 hp with rfl | hp; exact Kd.C_below hr0 ((Below.refl _ w).alloc (Nat.le_refl _) _); cases hp⟩)
  have d1 : decide ((x.f1.size : Int) > 100) = false := decide_eq_false (by omega)
  have d1' : decide ((100 : Int) < (x.f1.size : Int)) = false := decide_eq_false (by omega)
  have d2 : decide ((t.size : Int) > 100) = false := decide_eq_false (by omega)
  have d2' : decide ((100 : Int) < (t.size : Int)) = false := decide_eq_false (by omega)
  clear hr0 hs
  go_enter Tryd.func3, Tryd.ntmps3
  go_wp2_with (first | (go_at_call 6; refine (hsm _ (hold_at T.out (by simp))).mono ?_; rintro e w2 ⟨rfl, hb⟩; have T := Lib.hid (hold_below T.out hb); obtain ⟨t0, t1, t2, t3, _⟩ := T.out.1; clear hb) | (go_at_call 8; refine (h1 _ (hold_at T.out (by simp))).mono ?_; rintro e w2 ⟨B1, c1, rfl, hcc1, hC, hb⟩; have T := Lib.hid (hold_add T.out hb hC); obtain ⟨t0, t1, t2, t3, _⟩ := T.out.1; clear hb hC) | (go_at_call 9; refine (h2 _ (hold_at T.out (by simp))).mono ?_; rintro e w2 ⟨B2, c2, rfl, hcc2, hC, hb⟩; have T := Lib.hid (hold_add T.out hb hC); obtain ⟨t0, t1, t2, t3, _⟩ := T.out.1; clear hb hC) | (go_at_call 10; refine (h3 _ (hold_at T.out (by simp))).mono ?_; rintro e w2 ⟨B3, c3, rfl, hcc3, hC, hb⟩; have T := Lib.hid (hold_add T.out hb hC); obtain ⟨t0, t1, t2, t3, _⟩ := T.out.1; clear hb hC) | (go_at_call 11; refine (h4 _ (hold_at T.out (by simp))).mono ?_; rintro e w2 ⟨B4, c4, rfl, hcc4, hC, hb⟩; have T := Lib.hid (hold_add T.out hb hC); obtain ⟨t0, t1, t2, t3, _⟩ := T.out.1; clear hb hC) | (go_at_call 12; refine (h5 _ (hold_at T.out (by simp))).mono ?_; rintro e w2 ⟨B5, c5, rfl, hcc5, hC, hb⟩; have T := Lib.hid (hold_add T.out hb hC); obtain ⟨t0, t1, t2, t3, _⟩ := T.out.1; clear hb hC) | (go_at_call 13; refine (h6 _ (hold_at T.out (by simp))).mono ?_; rintro e w2 ⟨B6, c6, rfl, hcc6, hC, hb⟩; have T := Lib.hid (hold_add T.out hb hC); obtain ⟨t0, t1, t2, t3, _⟩ := T.out.1; clear hb hC) | (go_at_call 14; refine (h7 _ (hold_at T.out (by simp))).mono ?_; rintro e w2 ⟨B7, c7, rfl, hcc7, hC, hb⟩; have T := Lib.hid (hold_add T.out hb hC); obtain ⟨t0, t1, t2, t3, _⟩ := T.out.1; clear hb hC) | (go_at_call 15; refine (h8 _ (hold_at T.out (by simp))).mono ?_; rintro e w2 ⟨B8, c8, rfl, hcc8, hC, hb⟩; have T := Lib.hid (hold_add T.out hb hC); obtain ⟨t0, t1, t2, t3, _⟩ := T.out.1; clear hb hC) | (go_at_call 7; refine (aliveC _).mono ?_; rintro e w2 ⟨rfl, hb⟩; have T := Lib.hid (hold_below T.out hb); obtain ⟨t0, t1, t2, t3, _⟩ := T.out.1; clear hb) | (go_at_call_of 16 B1; refine (sameC B1 B2 c1 c2 la hcc1 hcc2 q1 _ (hold_at T.out (by simp)) (hold_at T.out (by simp))).mono ?_; rintro e w2 ⟨rfl, hb⟩; have T := Lib.hid (hold_below T.out hb); obtain ⟨t0, t1, t2, t3, _⟩ := T.out.1; clear hb) | (go_at_call_of 16 B3; refine (sameC B3 B4 c3 c4 ld hcc3 hcc4 q2 _ (hold_at T.out (by simp)) (hold_at T.out (by simp))).mono ?_; rintro e w2 ⟨rfl, hb⟩; have T := Lib.hid (hold_below T.out hb); obtain ⟨t0, t1, t2, t3, _⟩ := T.out.1; clear hb) | (go_at_call_of 16 B5; refine (sameC B5 B6 c5 c6 lr hcc5 hcc6 q3 _ (hold_at T.out (by simp)) (hold_at T.out (by simp))).mono ?_; rintro e w2 ⟨rfl, hb⟩; have T := Lib.hid (hold_below T.out hb); obtain ⟨t0, t1, t2, t3, _⟩ := T.out.1; clear hb) | (go_at_call_of 16 B7; refine (sameC B7 B8 c7 c8 lw hcc7 hcc8 q4 _ (hold_at T.out (by simp)) (hold_at T.out (by simp))).mono ?_; rintro e w2 ⟨rfl, hb⟩; have T := Lib.hid (hold_below T.out hb); obtain ⟨t0, t1, t2, t3, _⟩ := T.out.1; clear hb))
  go_ret
  exact ⟨by simp, boxed_below_of T.out.1⟩
set_option maxRecDepth 100000 in
set_option maxHeartbeats 8000000 in
theorem changes_out (A0 : Option Addr) (c0 : Nat) (l0 : List S25) (x : S25) (t : ByteArray) (w : World) (hr0 : Kd.C k25 w A0 l0.length l0) (hc0 : l0.length ≤ c0) (b1 b2 b3 : Bool) (hs : smallB l0 = b1) (hx : decide (100 < x.f1.size) = b2) (ht : decide (100 < t.size) = b3) (hb : (!b1 || b2 || b3) = true) :
    Calls Tryd.prog 3 #[.slice A0 l0.length c0, .agg #[.int .i64 x.f0, .string x.f1, .int .i64 x.f2], .string t] w fun e w' => e = .returned (.bool true) ∧ Below w.heap.size w w' := by
  have hsm := fun W h => smallC A0 c0 l0 hc0 W h
  rw [hs] at hsm
  have T := Lib.hid (show Hold w x (w.alloc (.cells #[.int .i64 x.f0, .string x.f1, .int .i64 x.f2] 25)) [(A0, l0)] from ⟨boxed_new _ _ _ _, fun p hp => by rcases List.mem_cons.1 hp with rfl | hp; exact Kd.C_below hr0 ((Below.refl _ w).alloc (Nat.le_refl _) _); cases hp⟩)
  have e2 : decide ((x.f1.size : Int) > 100) = b2 := by rw [← hx]; exact decide_eq_decide.2 (by omega)
  have e2' : decide ((100 : Int) < (x.f1.size : Int)) = b2 := by rw [← hx]; exact decide_eq_decide.2 (by omega)
  have e3 : decide ((t.size : Int) > 100) = b3 := by rw [← ht]; exact decide_eq_decide.2 (by omega)
  have e3' : decide ((100 : Int) < (t.size : Int)) = b3 := by rw [← ht]; exact decide_eq_decide.2 (by omega)
  clear hr0 hs hx ht
  cases b1 <;> cases b2 <;> cases b3 <;> first | (exfalso; revert hb; decide) | skip
  all_goals clear hb
  all_goals go_enter Tryd.func3, Tryd.ntmps3
  all_goals go_wp2_with (first | (go_at_call 6; refine (hsm _ (hold_at T.out (by simp))).mono ?_; rintro e w2 ⟨rfl, hb⟩; have T := Lib.hid (hold_below T.out hb); obtain ⟨t0, t1, t2, t3, _⟩ := T.out.1; clear hb) | (go_at_call 7; refine (aliveC _).mono ?_; rintro e w2 ⟨rfl, hb⟩; have T := Lib.hid (hold_below T.out hb); obtain ⟨t0, t1, t2, t3, _⟩ := T.out.1; clear hb))
  all_goals go_ret
  all_goals exact ⟨by simp, boxed_below_of T.out.1⟩
theorem changes_true (A0 : Option Addr) (c0 : Nat) (l0 : List S25) (x : S25) (t : ByteArray) (w : World) (hr0 : Kd.C k25 w A0 l0.length l0) (hc0 : l0.length ≤ c0) :
    Calls Tryd.prog 3 #[.slice A0 l0.length c0, .agg #[.int .i64 x.f0, .string x.f1, .int .i64 x.f2], .string t] w fun e w' => e = .returned (.bool true) ∧ Below w.heap.size w w' := by
  by_cases h : smallB l0 = true ∧ x.f1.size ≤ 100 ∧ t.size ≤ 100
  · exact changes_main A0 c0 l0 x t w hr0 hc0 h.1 h.2.1 h.2.2
  · refine changes_out A0 c0 l0 x t w hr0 hc0 _ _ _ rfl rfl rfl ?_
    cases hs : smallB l0 with
    | false => rfl
    | true =>
      rw [hs] at h
      by_cases hx : x.f1.size ≤ 100
      · have ht : 100 < t.size := by
          rcases Nat.lt_or_ge 100 t.size with h4 | h4
          · exact h4
          · exact absurd ⟨rfl, hx, h4⟩ h
        rw [decide_eq_true ht]; simp
      · rw [decide_eq_true (show 100 < x.f1.size by omega)]; simp
end Go.Proofs.YtkggdnnhgafopaaDoor
