/- SchemaTells walked: for every two lists of columns and every text it answers true. -/
import Derived.Test.YtkggdnnhgafopaaDoorAlive
import Derived.Test.YtkggdnnhgafopaaDoorSch9
import Derived.Test.YtkggdnnhgafopaaDoorPl3
set_option linter.unusedVariables false
set_option linter.unusedSimpArgs false
namespace Go.Proofs.YtkggdnnhgafopaaDoor
open Go.RowKit Go.Lib Go.Shelf Go.Proofs.YtkggdnnhgafopaaDoorW.PrintWords Go.Proofs.YtkggdnnhgafopaaDoorW.PrintLast Go.Proofs.YtkggdnnhgafopaaDoorW.PrintMore Go.Proofs.YtkggdnnhgafopaaDoor.Kp Go.Proofs.YtkggdnnhgafopaaDoor.Gp Go.Proofs.YtkggdnnhgafopaaDoor.Jp Go.Proofs.YtkggdnnhgafopaaDoor.Lp
attribute [local go_sem] max2_int min2_int max_two min_two max_three min_three max_four min_four
theorem held_two {w : World} {A0 A1 : Option Addr} {l0 l1 : List S25} (h0 : Kd.C k25 w A0 l0.length l0) (h1 : Kd.C k25 w A1 l1.length l1) : Held w w [(A0, l0), (A1, l1)] :=
  ⟨Below.refl _ _, fun p hp => by
    rcases List.mem_cons.1 hp with rfl | hp
    · exact h0
    · rcases List.mem_cons.1 hp with rfl | hp
      · exact h1
      · cases hp⟩
theorem small_is {l : List S25} (h : smallB l = true) : l.length ≤ 20 ∧ ∀ x ∈ l, x.f1.size ≤ 100 := by
  unfold smallB at h
  rw [Bool.and_eq_true] at h
  exact ⟨of_decide_eq_true h.1, fun x hx => of_decide_eq_true (List.all_eq_true.1 h.2 x hx)⟩
theorem smallD (A0 : Option Addr) (c0 : Nat) (l0 : List S25) (hc0 : l0.length ≤ c0) (W : World) (h : Kd.C k25 W A0 l0.length l0) :
    Calls Tryd.prog 6 #[.slice A0 l0.length c0] W fun e w' => e = .returned (.bool (smallB l0)) ∧ Below W.heap.size W w' :=
  (instarlaw12_Small.calls 50 A0 c0 l0 (smallB l0) W h hc0 (small_f l0 _ (Nat.le_refl _))).mono (by
    rintro e w' ⟨rfl, n, rfl⟩
    exact ⟨rfl, below_drews _ _⟩)
set_option maxRecDepth 100000 in
set_option maxHeartbeats 8000000 in
theorem tells_main (A0 : Option Addr) (c0 : Nat) (l0 : List S25) (A1 : Option Addr) (c1 : Nat) (l1 : List S25) (n : ByteArray) (w : World) (hr0 : Kd.C k25 w A0 l0.length l0) (hc0 : l0.length ≤ c0) (hr1 : Kd.C k25 w A1 l1.length l1) (hc1 : l1.length ≤ c1) (hp : smallB l0 = true) (hq : smallB l1 = true) (hn : n.size ≤ 100) :
    Calls Tryd.prog 5 #[.slice A0 l0.length c0, .slice A1 l1.length c1, .string n] w fun e w' => e = .returned (.bool true) ∧ Below w.heap.size w w' := by
  obtain ⟨hl0, hz0⟩ := small_is hp
  obtain ⟨hl1, hz1⟩ := small_is hq
  have hs0 := fun W h => smallD A0 c0 l0 hc0 W h
  have hs1 := fun W h => smallD A1 c1 l1 hc1 W h
  rw [hp] at hs0
  rw [hq] at hs1
  have hf := fun (W : World) (h : Kd.C k25 W A0 l0.length l0) => schema_Schema_Find.calls A0 c0 l0 n (max (findI l0 n) 0) (decide (0 ≤ findI l0 n)) W h hc0 rfl
  have hg := fun (W : World) (h : Kd.C k25 W A0 l0.length l0) => instarref12_Find.calls 1010 A0 c0 l0 n (findI l0 n) W h hc0 (reffind l0 n (by omega) _ (by omega))
  have hr := fun (W : World) (h : Kd.C k25 W A0 l0.length l0) => schema_Schema_Right.calls A0 c0 l0 (rightB l0) W h hc0 (by unfold schema_Schema_Right.f; rw [if_pos (show namesOk l0 = true from List.all_eq_true.2 fun x hx => decide_eq_true (by have := hz0 x hx; omega))])
  have hr' := fun (W : World) (h : Kd.C k25 W A0 l0.length l0) => instarref12_Right.calls 3001012 A0 c0 l0 (rightB l0) W h hc0 (refright l0 hl0 hz0)
  have hk1 := fun (W : World) (h : Kd.C k25 W A0 l0.length l0) => schema_Schema_Kinds.calls 1010 A0 c0 l0 (l0.map (·.f2)) W h hc0 (kinds_f l0 (by omega) _ (by omega))
  have hk2 := fun (W : World) (h : Kd.C k25 W A0 l0.length l0) => instarref12_Kinds.calls 1010 A0 c0 l0 (l0.map (·.f2)) W h hc0 (refkinds_f l0 (by omega) _ (by omega))
  have hks : instarlaw12_kinds.f 1010 (l0.map (·.f2)) (l0.map (·.f2)) = some true := samekinds_f _ (by simp; omega) _ (by simp; omega)
  have hsh := fun (W : World) (h : Kd.C k25 W A0 l0.length l0) => schema_Show.calls 1010 A0 c0 l0 (showB l0) W h hc0 (show_f l0 (by omega) (fun x hx => by have := hz0 x hx; omega) _ (by omega))
  have hsh' := fun (W : World) (h : Kd.C k25 W A0 l0.length l0) => refshow_calls A0 c0 l0 W h hl0 hz0
  rw [accS_show] at hsh'
  have hal := fun (W : World) (h : Kd.C k25 W A0 l0.length l0) (h' : Kd.C k25 W A1 l1.length l1) => alike_calls A0 c0 l0 A1 c1 l1 W h h' (by omega)
  have hal' := fun (W : World) (h : Kd.C k25 W A0 l0.length l0) (h' : Kd.C k25 W A1 l1.length l1) => instarref12_Alike.calls 1010 A0 c0 l0 A1 c1 l1 (alikeB l0 l1) W h hc0 h' hc1 (refalike l0 l1 (by omega) _ (by omega))
  have hn1 := fun (W : World) => schema_Name.calls 1000010 n (nameB n) W (name_f n (by omega) _ (Nat.le_refl _))
  have hn2 := fun (W : World) => instarref12_Name.calls 1000010 n (nameB n) W (refname_f n (by omega) _ (by omega))
  have hge := findI_ge l0 n
  have T := Lib.hid (held_two hr0 hr1)
  have d1 : decide ((n.size : Int) > 100) = false := decide_eq_false (by omega)
  have d1' : decide ((100 : Int) < (n.size : Int)) = false := decide_eq_false (by omega)
  clear hr0 hr1 hp hq hz0 hz1
  generalize findI l0 n = I at *
  generalize rightB l0 = rb at *
  generalize l0.map (·.f2) = ks at *
  generalize showB l0 = sb at *
  generalize alikeB l0 l1 = ab at *
  generalize nameB n = nb at *
  by_cases hI : 0 ≤ I
  · have m1 : max I 0 = I := by omega
    have m2 : decide (0 ≤ I) = true := decide_eq_true hI
    have m3 : decide (I ≥ 0) = true := decide_eq_true hI
    have m4 : (I < 0) = False := eq_false (by omega)
    rw [m1, m2] at hf
    clear hge m1
    go_enter Tryd.func5, Tryd.ntmps5
    go_wp2_with (first | (go_at_call_of 6 c0; refine (hs0 _ (held_at T.out (by simp))).mono ?_; rintro e w2 ⟨rfl, hb⟩; have T := Lib.hid (held_below T.out hb); clear hb) | (go_at_call_of 6 c1; refine (hs1 _ (held_at T.out (by simp))).mono ?_; rintro e w2 ⟨rfl, hb⟩; have T := Lib.hid (held_below T.out hb); clear hb) | (go_at_call 18; refine (hf _ (held_at T.out (by simp))).mono ?_; rintro e w2 ⟨rfl, hb⟩; have T := Lib.hid (held_below T.out hb); clear hb) | (go_at_call 19; refine (hg _ (held_at T.out (by simp))).mono ?_; rintro e w2 ⟨rfl, n_, rfl⟩; have T := Lib.hid (held_below T.out (below_drews _ n_))) | (go_at_call 7; refine (aliveC _).mono ?_; rintro e w2 ⟨rfl, hb⟩; have T := Lib.hid (held_below T.out hb); clear hb) | (go_at_call 17; refine (hr _ (held_at T.out (by simp))).mono ?_; rintro e w2 ⟨rfl, hb⟩; have T := Lib.hid (held_below T.out hb); clear hb) | (go_at_call 20; refine (hr' _ (held_at T.out (by simp))).mono ?_; rintro e w2 ⟨rfl, hb⟩; have T := Lib.hid (held_below T.out hb); clear hb) | (go_at_call 22; refine (hk1 _ (held_at T.out (by simp))).mono ?_; rintro e w2 ⟨v, rfl, hR, hb⟩; obtain ⟨B1, d1, rfl⟩ := Kd.R_slice hR; have K1 := Lib.hid (Kd.R_reads' hR); have T := Lib.hid (held_below T.out hb); clear hb; clear hR) | (go_at_call 23; refine (hk2 _ (held_at T.out (by simp))).mono ?_; rintro e w2 ⟨v, rfl, hR, hb⟩; obtain ⟨B2, d2, rfl⟩ := Kd.R_slice hR; have K2 := Lib.hid (Kd.R_reads' hR); have K3 := Lib.hid (Kd.C_below K1.out.2.2 hb); have T := Lib.hid (held_below T.out hb); clear hb; clear hR) | (go_at_call 21; refine (instarlaw12_kinds.calls 1010 B1 d1 ks B2 d2 ks true _ K3.out K1.out.2.1 K2.out.2.2 K2.out.2.1 hks).mono ?_; rintro e w2 ⟨rfl, n_, rfl⟩; have T := Lib.hid (held_below T.out (below_drews _ n_))) | (go_at_call 24; refine (hsh _ (held_at T.out (by simp))).mono ?_; rintro e w2 ⟨rfl, hb⟩; have T := Lib.hid (held_below T.out hb); clear hb) | (go_at_call 25; refine (hsh' _ (held_at T.out (by simp))).mono ?_; rintro e w2 ⟨rfl, hb⟩; have T := Lib.hid (held_below T.out hb); clear hb) | (go_at_call 26; refine (hal _ (held_at T.out (by simp)) (held_at T.out (by simp))).mono ?_; rintro e w2 ⟨rfl, hb⟩; have T := Lib.hid (held_below T.out hb); clear hb) | (go_at_call 27; refine (hal' _ (held_at T.out (by simp)) (held_at T.out (by simp))).mono ?_; rintro e w2 ⟨rfl, n_, rfl⟩; have T := Lib.hid (held_below T.out (below_drews _ n_))) | (go_at_call 28; refine (hn1 _).mono ?_; rintro e w2 ⟨rfl, hb⟩; have T := Lib.hid (held_below T.out hb); clear hb) | (go_at_call 29; refine (hn2 _).mono ?_; rintro e w2 ⟨rfl, hb⟩; have T := Lib.hid (held_below T.out hb); clear hb))
    go_ret
    exact ⟨by simp, T.out.1⟩
  · obtain rfl : I = -1 := by omega
    rw [show max (-1 : Int) 0 = 0 from rfl, show decide ((0 : Int) ≤ -1) = false from rfl] at hf
    clear hge hI
    go_enter Tryd.func5, Tryd.ntmps5
    go_wp2_with (first | (go_at_call_of 6 c0; refine (hs0 _ (held_at T.out (by simp))).mono ?_; rintro e w2 ⟨rfl, hb⟩; have T := Lib.hid (held_below T.out hb); clear hb) | (go_at_call_of 6 c1; refine (hs1 _ (held_at T.out (by simp))).mono ?_; rintro e w2 ⟨rfl, hb⟩; have T := Lib.hid (held_below T.out hb); clear hb) | (go_at_call 18; refine (hf _ (held_at T.out (by simp))).mono ?_; rintro e w2 ⟨rfl, hb⟩; have T := Lib.hid (held_below T.out hb); clear hb) | (go_at_call 19; refine (hg _ (held_at T.out (by simp))).mono ?_; rintro e w2 ⟨rfl, n_, rfl⟩; have T := Lib.hid (held_below T.out (below_drews _ n_))) | (go_at_call 7; refine (aliveC _).mono ?_; rintro e w2 ⟨rfl, hb⟩; have T := Lib.hid (held_below T.out hb); clear hb) | (go_at_call 17; refine (hr _ (held_at T.out (by simp))).mono ?_; rintro e w2 ⟨rfl, hb⟩; have T := Lib.hid (held_below T.out hb); clear hb) | (go_at_call 20; refine (hr' _ (held_at T.out (by simp))).mono ?_; rintro e w2 ⟨rfl, hb⟩; have T := Lib.hid (held_below T.out hb); clear hb) | (go_at_call 22; refine (hk1 _ (held_at T.out (by simp))).mono ?_; rintro e w2 ⟨v, rfl, hR, hb⟩; obtain ⟨B1, d1, rfl⟩ := Kd.R_slice hR; have K1 := Lib.hid (Kd.R_reads' hR); have T := Lib.hid (held_below T.out hb); clear hb; clear hR) | (go_at_call 23; refine (hk2 _ (held_at T.out (by simp))).mono ?_; rintro e w2 ⟨v, rfl, hR, hb⟩; obtain ⟨B2, d2, rfl⟩ := Kd.R_slice hR; have K2 := Lib.hid (Kd.R_reads' hR); have K3 := Lib.hid (Kd.C_below K1.out.2.2 hb); have T := Lib.hid (held_below T.out hb); clear hb; clear hR) | (go_at_call 21; refine (instarlaw12_kinds.calls 1010 B1 d1 ks B2 d2 ks true _ K3.out K1.out.2.1 K2.out.2.2 K2.out.2.1 hks).mono ?_; rintro e w2 ⟨rfl, n_, rfl⟩; have T := Lib.hid (held_below T.out (below_drews _ n_))) | (go_at_call 24; refine (hsh _ (held_at T.out (by simp))).mono ?_; rintro e w2 ⟨rfl, hb⟩; have T := Lib.hid (held_below T.out hb); clear hb) | (go_at_call 25; refine (hsh' _ (held_at T.out (by simp))).mono ?_; rintro e w2 ⟨rfl, hb⟩; have T := Lib.hid (held_below T.out hb); clear hb) | (go_at_call 26; refine (hal _ (held_at T.out (by simp)) (held_at T.out (by simp))).mono ?_; rintro e w2 ⟨rfl, hb⟩; have T := Lib.hid (held_below T.out hb); clear hb) | (go_at_call 27; refine (hal' _ (held_at T.out (by simp)) (held_at T.out (by simp))).mono ?_; rintro e w2 ⟨rfl, n_, rfl⟩; have T := Lib.hid (held_below T.out (below_drews _ n_))) | (go_at_call 28; refine (hn1 _).mono ?_; rintro e w2 ⟨rfl, hb⟩; have T := Lib.hid (held_below T.out hb); clear hb) | (go_at_call 29; refine (hn2 _).mono ?_; rintro e w2 ⟨rfl, hb⟩; have T := Lib.hid (held_below T.out hb); clear hb))
    go_ret
    exact ⟨by simp, T.out.1⟩
set_option maxRecDepth 100000 in
set_option maxHeartbeats 8000000 in
theorem tells_out (A0 : Option Addr) (c0 : Nat) (l0 : List S25) (A1 : Option Addr) (c1 : Nat) (l1 : List S25) (n : ByteArray) (w : World) (hr0 : Kd.C k25 w A0 l0.length l0) (hc0 : l0.length ≤ c0) (hr1 : Kd.C k25 w A1 l1.length l1) (hc1 : l1.length ≤ c1) (b1 b2 b3 : Bool) (hp : smallB l0 = b1) (hq : smallB l1 = b2) (hn : decide (100 < n.size) = b3) (hb : (!b1 || !b2 || b3) = true) :
    Calls Tryd.prog 5 #[.slice A0 l0.length c0, .slice A1 l1.length c1, .string n] w fun e w' => e = .returned (.bool true) ∧ Below w.heap.size w w' := by
  have hs0 := fun W h => smallD A0 c0 l0 hc0 W h
  have hs1 := fun W h => smallD A1 c1 l1 hc1 W h
  rw [hp] at hs0
  rw [hq] at hs1
  have T := Lib.hid (held_two hr0 hr1)
  have e3 : decide ((n.size : Int) > 100) = b3 := by rw [← hn]; exact decide_eq_decide.2 (by omega)
  have e3' : decide ((100 : Int) < (n.size : Int)) = b3 := by rw [← hn]; exact decide_eq_decide.2 (by omega)
  clear hr0 hr1 hp hq hn
  cases b1 <;> cases b2 <;> cases b3 <;> first | (exfalso; revert hb; decide) | skip
  all_goals clear hb
  all_goals go_enter Tryd.func5, Tryd.ntmps5
  all_goals go_wp2_with (first | (go_at_call_of 6 c0; refine (hs0 _ (held_at T.out (by simp))).mono ?_; rintro e w2 ⟨rfl, hb⟩; have T := Lib.hid (held_below T.out hb); clear hb) | (go_at_call_of 6 c1; refine (hs1 _ (held_at T.out (by simp))).mono ?_; rintro e w2 ⟨rfl, hb⟩; have T := Lib.hid (held_below T.out hb); clear hb) | (go_at_call 7; refine (aliveC _).mono ?_; rintro e w2 ⟨rfl, hb⟩; have T := Lib.hid (held_below T.out hb); clear hb))
  all_goals go_ret
  all_goals exact ⟨by simp, T.out.1⟩
theorem tells_true (A0 : Option Addr) (c0 : Nat) (l0 : List S25) (A1 : Option Addr) (c1 : Nat) (l1 : List S25) (n : ByteArray) (w : World) (hr0 : Kd.C k25 w A0 l0.length l0) (hc0 : l0.length ≤ c0) (hr1 : Kd.C k25 w A1 l1.length l1) (hc1 : l1.length ≤ c1) :
    Calls Tryd.prog 5 #[.slice A0 l0.length c0, .slice A1 l1.length c1, .string n] w fun e w' => e = .returned (.bool true) ∧ Below w.heap.size w w' := by
  by_cases h : smallB l0 = true ∧ smallB l1 = true ∧ n.size ≤ 100
  · exact tells_main A0 c0 l0 A1 c1 l1 n w hr0 hc0 hr1 hc1 h.1 h.2.1 h.2.2
  · refine tells_out A0 c0 l0 A1 c1 l1 n w hr0 hc0 hr1 hc1 _ _ _ rfl rfl rfl ?_
    cases hp : smallB l0 with
    | false => rfl
    | true =>
      cases hq : smallB l1 with
      | false => rfl
      | true =>
        have hn : 100 < n.size := by
          rcases Nat.lt_or_ge 100 n.size with h4 | h4
          · exact h4
          · exact absurd ⟨hp, hq, h4⟩ h
        rw [decide_eq_true hn]
        rfl
end Go.Proofs.YtkggdnnhgafopaaDoor
