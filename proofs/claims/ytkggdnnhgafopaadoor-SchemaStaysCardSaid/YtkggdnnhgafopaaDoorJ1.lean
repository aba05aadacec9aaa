/- What each function comes to, a contract of its call each (and the row of a law out of its plain statement); no condition beyond what stands in each. -/
import Derived.Test.YtkggdnnhgafopaaDoorJ0
namespace Go.Proofs.YtkggdnnhgafopaaDoor.Jp
open Go.RowKit Go.Proofs.YtkggdnnhgafopaaDoorW.PrintWords Go.Proofs.YtkggdnnhgafopaaDoorW.PrintLast Go.Proofs.YtkggdnnhgafopaaDoorW.PrintMore
open Go.Proofs.YtkggdnnhgafopaaDoor.Kp
open Go.Proofs.YtkggdnnhgafopaaDoor.Gp
attribute [local go_sem] max2_int min2_int max_two min_two max_three min_three max_four min_four   -- for this text's walks alone
set_option linter.unusedVariables false
set_option linter.unusedSimpArgs false

/-! ### schema_Schema_Rename: function 12 -/
def schema_Schema_Rename.f (k : Nat) (l0 : List (S25)) (a1 : ByteArray) (a2 : ByteArray) : Option ((List (S25)) × Int) := (schema_Schema_Find.f l0 a1).bind fun bt101 => ((schema_Schema_Find.f l0 a2).bind fun bt103 => (if bt101.2 = true then ((schema_Name.f k a2).bind fun t105 => (if t105 = true then (if bt103.2 = true then (some (([] : List (S25)), 122)) else ((slices_Clone.f l0).bind fun t106 => (if 0 ≤ bt101.1 then (if bt101.1 < (t106.length : Int) then (some ((t106.set (bt101.1 : Int).toNat (⟨(rd_T25 t106 bt101.1).f0, a2, (rd_T25 t106 bt101.1).f2⟩ : S25)), 0)) else (none)) else (none)))) else (some (([] : List (S25)), 1)))) else (some (([] : List (S25)), 121))))
theorem schema_Schema_Rename.mono : ∀ a0 a1 a2 k, LeO (schema_Schema_Rename.f k a0 a1 a2) (schema_Schema_Rename.f (k + 1) a0 a1 a2) := by
  intro a0 a1 a2 k
  unfold schema_Schema_Rename.f
  repeat' first
      | (with_reducible exact schema_Name.mono _ _)
      | (with_reducible exact LeO.refl _)
      | (with_reducible exact LeO.none _)
      | (with_reducible refine LeO.ite ?_ ?_)
      | (with_reducible refine LeO.bind ?_ (fun _ => ?_))
      | exact schema_Name.mono _ _
      | exact LeO.none _
      | refine LeO.ite ?_ ?_
      | refine LeO.bind ?_ (fun _ => ?_)
set_option maxHeartbeats 8000000 in
set_option maxRecDepth 100000 in
theorem schema_Schema_Rename.calls (k : Nat) (A0 : Option Addr) (c0 : Nat) (l0 : List (S25)) (a1 : ByteArray) (a2 : ByteArray) (r1 : List (S25)) (r2 : Int) (w : World) (hr0 : Kd.C k25 w A0 l0.length l0) (hc0 : l0.length ≤ c0) (h : schema_Schema_Rename.f k l0 a1 a2 = some (r1, r2)) :
    Calls Tryd.prog 12 #[.slice A0 l0.length c0, .string a1, .string a2] w fun e w' => ∃ v0_ : Value, e = .returned (.tuple #[v0_, .int .i64 r2]) ∧ Kd.R k25 25 w' w.heap.size (fun _ => True) v0_ r1 ∧ Below w.heap.size w w' := by
  have HR0 := Aside0.mk hr0
  have HC0 := Aside0.mk hc0
  clear hr0 hc0
  have HB := Aside0.mk (Below.refl w.heap.size w)
  have H : ((schema_Schema_Find.f l0 a1).bind fun bt101 => ((schema_Schema_Find.f l0 a2).bind fun bt103 => (if bt101.2 = true then ((schema_Name.f k a2).bind fun t105 => (if t105 = true then (if bt103.2 = true then (some (([] : List (S25)), 122)) else ((slices_Clone.f l0).bind fun t106 => (if 0 ≤ bt101.1 then (if bt101.1 < (t106.length : Int) then (some ((t106.set (bt101.1 : Int).toNat (⟨(rd_T25 t106 bt101.1).f0, a2, (rd_T25 t106 bt101.1).f2⟩ : S25)), 0)) else (none)) else (none)))) else (some (([] : List (S25)), 1)))) else (some (([] : List (S25)), 121))))) = some (r1, r2) := h
  clear h
  replace H := Option.bind_eq_some_iff.mp H
  obtain ⟨⟨t101, t102⟩, A40, H⟩ := H
  replace H : ((schema_Schema_Find.f l0 a2).bind fun bt103 => (if t102 = true then ((schema_Name.f k a2).bind fun t105 => (if t105 = true then (if bt103.2 = true then (some (([] : List (S25)), 122)) else ((slices_Clone.f l0).bind fun t106 => (if 0 ≤ t101 then (if t101 < (t106.length : Int) then (some ((t106.set (t101 : Int).toNat (⟨(rd_T25 t106 t101).f0, a2, (rd_T25 t106 t101).f2⟩ : S25)), 0)) else (none)) else (none)))) else (some (([] : List (S25)), 1)))) else (some (([] : List (S25)), 121)))) = some (r1, r2) := H
  have A4 := Aside0.mk A40
  clear A40
  replace H := Option.bind_eq_some_iff.mp H
  obtain ⟨⟨t103, t104⟩, A50, H⟩ := H
  replace H : (if t102 = true then ((schema_Name.f k a2).bind fun t105 => (if t105 = true then (if t104 = true then (some (([] : List (S25)), 122)) else ((slices_Clone.f l0).bind fun t106 => (if 0 ≤ t101 then (if t101 < (t106.length : Int) then (some ((t106.set (t101 : Int).toNat (⟨(rd_T25 t106 t101).f0, a2, (rd_T25 t106 t101).f2⟩ : S25)), 0)) else (none)) else (none)))) else (some (([] : List (S25)), 1)))) else (some (([] : List (S25)), 121))) = some (r1, r2) := H
  have A5 := Aside0.mk A50
  clear A50
  by_cases c6 : t102 = true
  · subst c6
    have H1 : ((schema_Name.f k a2).bind fun t105 => (if t105 = true then (if t104 = true then (some (([] : List (S25)), 122)) else ((slices_Clone.f l0).bind fun t106 => (if 0 ≤ t101 then (if t101 < (t106.length : Int) then (some ((t106.set (t101 : Int).toNat (⟨(rd_T25 t106 t101).f0, a2, (rd_T25 t106 t101).f2⟩ : S25)), 0)) else (none)) else (none)))) else (some (([] : List (S25)), 1)))) = some (r1, r2) := by rw [if_pos rfl] at H; exact H
    clear H
    have H := H1
    clear H1
    replace H := Option.bind_eq_some_iff.mp H
    obtain ⟨t105, A70, H⟩ := H
    replace H : (if t105 = true then (if t104 = true then (some (([] : List (S25)), 122)) else ((slices_Clone.f l0).bind fun t106 => (if 0 ≤ t101 then (if t101 < (t106.length : Int) then (some ((t106.set (t101 : Int).toNat (⟨(rd_T25 t106 t101).f0, a2, (rd_T25 t106 t101).f2⟩ : S25)), 0)) else (none)) else (none)))) else (some (([] : List (S25)), 1))) = some (r1, r2) := H
    have A7 := Aside0.mk A70
    clear A70
    by_cases c8 : t105 = true
    · subst c8
      have H1 : (if t104 = true then (some (([] : List (S25)), 122)) else ((slices_Clone.f l0).bind fun t106 => (if 0 ≤ t101 then (if t101 < (t106.length : Int) then (some ((t106.set (t101 : Int).toNat (⟨(rd_T25 t106 t101).f0, a2, (rd_T25 t106 t101).f2⟩ : S25)), 0)) else (none)) else (none)))) = some (r1, r2) := by rw [if_pos rfl] at H; exact H
      clear H
      have H := H1
      clear H1
      by_cases c9 : t104 = true
      · subst c9
        have H1 : (some (([] : List (S25)), 122)) = some (r1, r2) := by rw [if_pos rfl] at H; exact H
        clear H
        have H := H1
        clear H1
        simp only [Option.some.injEq, Prod.mk.injEq] at H
        obtain ⟨rfl, rfl⟩ := H
        go_enter Tryd.func12, Tryd.ntmps12
        go_wp2_with (first | ((with_reducible refine gate_callee (f := 18) rfl ?_); refine goesL_ (some 16) rfl rfl Tryd.func18 (by kernel_rfl) rfl #[.slice A0 l0.length c0, .string a1] rfl (by (try simp only [List.map_toArray, List.map_cons, List.map_nil]); first | done | rfl | (simp only [List.length_drop, List.length_take]; rfl)) ?_; (with_reducible refine (schema_Schema_Find.calls _ _ l0 a1 t101 true _ ?side1 ?side2 A4.out).mono ?_); (case side1 => repeat (first | exact HR0.out | (with_reducible refine Kd.C_alloc ?_ _) | (with_reducible refine Kd.C_drewN ?_ _) | (with_reducible refine Kd.C_drew ?_))); (case side2 => exact HC0.out); rintro e w10 ⟨rfl, hb⟩; refine ⟨_, rfl, ?_⟩; have n0_ := Aside0.mk (below_step (by repeat (first | (with_reducible first | exact HB.out | apply below_alloc | apply pw_below_drewN | apply below_drew1) | exact HB.out)) hb); clear HB; have HB := n0_; clear n0_; (try clear hb); (try clear hb2); (try clear hk); (try clear hi)) | ((with_reducible refine gate_callee (f := 18) rfl ?_); refine goesL_ (some 22) rfl rfl Tryd.func18 (by kernel_rfl) rfl #[.slice A0 l0.length c0, .string a2] rfl (by (try simp only [List.map_toArray, List.map_cons, List.map_nil]); first | done | rfl | (simp only [List.length_drop, List.length_take]; rfl)) ?_; (with_reducible refine (schema_Schema_Find.calls _ _ l0 a2 t103 true _ ?side1 ?side2 A5.out).mono ?_); (case side1 => repeat (first | exact (Kd.C_below HR0.out HB.out) | (with_reducible refine Kd.C_alloc ?_ _) | (with_reducible refine Kd.C_drewN ?_ _) | (with_reducible refine Kd.C_drew ?_))); (case side2 => exact HC0.out); rintro e w11 ⟨rfl, hb⟩; refine ⟨_, rfl, ?_⟩; have n0_ := Aside0.mk (below_step (by repeat (first | (with_reducible first | exact HB.out | apply below_alloc | apply pw_below_drewN | apply below_drew1) | exact HB.out)) hb); clear HB; have HB := n0_; clear n0_; (try clear hb); (try clear hb2); (try clear hk); (try clear hi)) | ((with_reducible refine gate_callee (f := 28) rfl ?_); refine goesL_ (some 30) rfl rfl Tryd.func28 (by kernel_rfl) rfl #[.string a2] rfl (by (try simp only [List.map_toArray, List.map_cons, List.map_nil]); first | done | rfl | (simp only [List.length_drop, List.length_take]; rfl)) ?_; (with_reducible refine (schema_Name.calls k a2 true _ A7.out).mono ?_); rintro e w12 ⟨rfl, hb⟩; refine ⟨_, rfl, ?_⟩; have n0_ := Aside0.mk (below_step (by repeat (first | (with_reducible first | exact HB.out | apply below_alloc | apply pw_below_drewN | apply below_drew1) | exact HB.out)) hb); clear HB; have HB := n0_; clear n0_; (try clear hb); (try clear hb2); (try clear hk); (try clear hi)))
        go_ret2
        exact ⟨_, by first | rfl | (simp [errW_none, errW_some] <;> rfl) | (simp [*, errW_none, errW_some] <;> rfl), by first | exact Kd.R_nil _ _ _ _ _ | exact Kd.N_nil _ _ _ _ _ | exact Kd.V_nil _ _ _ _ _ | exact Kd.Q_nil _ _ _ _ _ | exact Kd.S_nil _ _ _ _ _, by repeat (first | (with_reducible first | exact HB.out | apply below_alloc | apply pw_below_drewN | apply below_drew1) | exact HB.out)⟩
      · replace c9 := Bool.eq_false_iff.mpr c9
        subst c9
        have H1 : ((slices_Clone.f l0).bind fun t106 => (if 0 ≤ t101 then (if t101 < (t106.length : Int) then (some ((t106.set (t101 : Int).toNat (⟨(rd_T25 t106 t101).f0, a2, (rd_T25 t106 t101).f2⟩ : S25)), 0)) else (none)) else (none))) = some (r1, r2) := by rw [if_neg (show ¬ (false = true) by decide)] at H; exact H
        clear H
        have H := H1
        clear H1
        replace H := Option.bind_eq_some_iff.mp H
        obtain ⟨t106, A130, H⟩ := H
        replace H : (if 0 ≤ t101 then (if t101 < (t106.length : Int) then (some ((t106.set (t101 : Int).toNat (⟨(rd_T25 t106 t101).f0, a2, (rd_T25 t106 t101).f2⟩ : S25)), 0)) else (none)) else (none)) = some (r1, r2) := H
        have A13 := Aside0.mk A130
        clear A130
        by_cases c14 : 0 ≤ t101
        · rw [if_pos c14] at H
          have c14b0 : decide (0 ≤ t101) = true := decide_eq_true c14
          clear c14
          by_cases c15 : t101 < (t106.length : Int)
          · rw [if_pos c15] at H
            have c15b0 : decide (t101 < (t106.length : Int)) = true := decide_eq_true c15
            clear c15
            obtain ⟨y109, hy109⟩ : ∃ y_ : List (S25), y_ = (t106.set (t101 : Int).toNat (⟨(rd_T25 t106 t101).f0, a2, (rd_T25 t106 t101).f2⟩ : S25)) := ⟨_, rfl⟩
            replace H : (some (y109, 0)) = some (r1, r2) := by first | (rw [hy109]; with_reducible exact H) | (have H2_ := (Option.bind_some _ _).symm.trans H; rw [hy109]; with_reducible exact H2_) | (have H2_ := (Option.bind_some _ _).symm.trans H; with_reducible exact H2_) | with_reducible exact H | (rw [hy109]; exact H) | exact H
            have Ny109 := Aside0.mk hy109
            clear hy109
            simp only [Option.some.injEq, Prod.mk.injEq] at H
            obtain ⟨rfl, rfl⟩ := H
            go_enter Tryd.func12, Tryd.ntmps12
            go_wp2_with (first | ((with_reducible refine gate_callee (f := 18) rfl ?_); refine goesL_ (some 16) rfl rfl Tryd.func18 (by kernel_rfl) rfl #[.slice A0 l0.length c0, .string a1] rfl (by (try simp only [List.map_toArray, List.map_cons, List.map_nil]); first | done | rfl | (simp only [List.length_drop, List.length_take]; rfl)) ?_; (with_reducible refine (schema_Schema_Find.calls _ _ l0 a1 t101 true _ ?side1 ?side2 A4.out).mono ?_); (case side1 => repeat (first | exact HR0.out | (with_reducible refine Kd.C_alloc ?_ _) | (with_reducible refine Kd.C_drewN ?_ _) | (with_reducible refine Kd.C_drew ?_))); (case side2 => exact HC0.out); rintro e w17 ⟨rfl, hb⟩; refine ⟨_, rfl, ?_⟩; have n0_ := Aside0.mk (below_step (by repeat (first | (with_reducible first | exact HB.out | apply below_alloc | apply pw_below_drewN | apply below_drew1) | exact HB.out)) hb); clear HB; have HB := n0_; clear n0_; (try clear hb); (try clear hb2); (try clear hk); (try clear hi)) | ((with_reducible refine gate_callee (f := 18) rfl ?_); refine goesL_ (some 22) rfl rfl Tryd.func18 (by kernel_rfl) rfl #[.slice A0 l0.length c0, .string a2] rfl (by (try simp only [List.map_toArray, List.map_cons, List.map_nil]); first | done | rfl | (simp only [List.length_drop, List.length_take]; rfl)) ?_; (with_reducible refine (schema_Schema_Find.calls _ _ l0 a2 t103 false _ ?side1 ?side2 A5.out).mono ?_); (case side1 => repeat (first | exact (Kd.C_below HR0.out HB.out) | (with_reducible refine Kd.C_alloc ?_ _) | (with_reducible refine Kd.C_drewN ?_ _) | (with_reducible refine Kd.C_drew ?_))); (case side2 => exact HC0.out); rintro e w18 ⟨rfl, hb⟩; refine ⟨_, rfl, ?_⟩; have n0_ := Aside0.mk (below_step (by repeat (first | (with_reducible first | exact HB.out | apply below_alloc | apply pw_below_drewN | apply below_drew1) | exact HB.out)) hb); clear HB; have HB := n0_; clear n0_; (try clear hb); (try clear hb2); (try clear hk); (try clear hi)) | ((with_reducible refine gate_callee (f := 28) rfl ?_); refine goesL_ (some 30) rfl rfl Tryd.func28 (by kernel_rfl) rfl #[.string a2] rfl (by (try simp only [List.map_toArray, List.map_cons, List.map_nil]); first | done | rfl | (simp only [List.length_drop, List.length_take]; rfl)) ?_; (with_reducible refine (schema_Name.calls k a2 true _ A7.out).mono ?_); rintro e w19 ⟨rfl, hb⟩; refine ⟨_, rfl, ?_⟩; have n0_ := Aside0.mk (below_step (by repeat (first | (with_reducible first | exact HB.out | apply below_alloc | apply pw_below_drewN | apply below_drew1) | exact HB.out)) hb); clear HB; have HB := n0_; clear n0_; (try clear hb); (try clear hb2); (try clear hk); (try clear hi)) | ((with_reducible refine gate_callee (f := 33) rfl ?_); refine goesL_ (some 35) rfl rfl Tryd.func33 (by kernel_rfl) rfl #[.slice A0 l0.length c0] rfl (by (try simp only [List.map_toArray, List.map_cons, List.map_nil]); first | done | rfl | (simp only [List.length_drop, List.length_take]; rfl)) ?_; (with_reducible refine (slices_Clone.calls _ _ l0 t106 _ ?side1 ?side2 A13.out).mono ?_); (case side1 => repeat (first | exact (Kd.C_below HR0.out HB.out) | (with_reducible refine Kd.C_alloc ?_ _) | (with_reducible refine Kd.C_drewN ?_ _) | (with_reducible refine Kd.C_drew ?_))); (case side2 => exact HC0.out); rintro e w20 ⟨v107, rfl, ho0, hb⟩; refine ⟨_, rfl, ?_⟩; have n0_ := Aside0.mk (Kd.R_lower ho0 (below_size (by repeat (first | (with_reducible first | exact HB.out | apply below_alloc | apply pw_below_drewN | apply below_drew1) | exact HB.out)))); have n1_ := Aside0.mk (below_step (by repeat (first | (with_reducible first | exact HB.out | apply below_alloc | apply pw_below_drewN | apply below_drew1) | exact HB.out)) hb); clear HB; have HO108 := n0_; have HB := n1_; clear n0_ n1_; (try clear hb); (try clear hb2); (try clear hk); (try clear hi); (try clear ho0); have p16 : 0 ≤ (t101 : Int) := of_decide_eq_true (by first | (with_reducible assumption) | assumption); have q16 : (t101 : Int) < ((t106.length : Int) : Int) := of_decide_eq_true (by first | (with_reducible assumption) | assumption); obtain ⟨go16, co16, eo16, gb16, gl16, cl16, HG16⟩ := Kd.R_form HO108.out (by omega); (first | cases eo16 | (injection eo16 with ea_ en_ ec_; (first | subst ea_ | (injection ea_ with ea_; subst ea_)); subst ec_; clear en_)); have GB16 := Aside0.mk gb16; have GG16 := Aside0.mk HG16; clear gb16 gl16 HG16; obtain ⟨ce16, hcl16, hM16, hcc16, hfr16⟩ := Kd.R_elem HO108.out z25 (t101 : Int) p16 q16; obtain rfl := k25_openM hM16; have hx16_0 : w20.cell? ⟨go16, (t101 : Int).toNat * 3, none⟩ = some (.int .i64 ((rd_T25 t106 t101).f0)) := hcc16 0 _ rfl; have hx16_1 : w20.cell? ⟨go16, (t101 : Int).toNat * 3 + 1, none⟩ = some (.string ((rd_T25 t106 t101).f1)) := hcc16 1 _ rfl; have hx16_2 : w20.cell? ⟨go16, (t101 : Int).toNat * 3 + 2, none⟩ = some (.int .i64 ((rd_T25 t106 t101).f2)) := hcc16 2 _ rfl; have hf16_0 : w20.frozen? ⟨go16, (t101 : Int).toNat * 3, none⟩ = false := hfr16 0; have hf16_1 : w20.frozen? ⟨go16, (t101 : Int).toNat * 3 + 1, none⟩ = false := hfr16 1; have hf16_2 : w20.frozen? ⟨go16, (t101 : Int).toNat * 3 + 2, none⟩ = false := hfr16 2; clear hcl16 hcc16 hfr16 hM16; replace p16 := eq_true p16; replace q16 := eq_true q16; have HX21 := Aside0.mk (show Kd.R k25 25 w20 w.heap.size (fun _ => True) (.slice (some ⟨go16, 0, none⟩) t106.length co16) t106 from (by (with_reducible repeat (first | apply Kd.R_alloc | apply Kd.R_drewN | apply Kd.R_drew)); exact HO108.out)); obtain ⟨ce21, hcl21, hM21, hcc21, hfr21⟩ := Kd.R_elem HX21.out z25 (t101 : Int) (of_decide_eq_true (by first | (with_reducible assumption) | assumption)) (by have h_ : (t101 : Int) < ((t106.length : Int) : Int) := of_decide_eq_true (by first | (with_reducible assumption) | assumption); first | exact h_ | (have e_ := (Kd.R_reads' HO108.out).1; omega) | simpa using h_); obtain rfl := k25_openM hM21; have HP21 := Kd.R_seg HX21.out (t101 : Int) (of_decide_eq_true (by first | (with_reducible assumption) | assumption)) (by have h_ : (t101 : Int) < ((t106.length : Int) : Int) := of_decide_eq_true (by first | (with_reducible assumption) | assumption); first | exact h_ | (have e_ := (Kd.R_reads' HO108.out).1; omega) | simpa using h_) (seg := [.string a2]) (j := 1) hcl21 hcc21 (show 2 ≤ 3 from by decide) (x' := (⟨(rd_T25 t106 t101).f0, a2, (rd_T25 t106 t101).f2⟩ : S25)) (k25_mkM _ _ _ (⟨(rd_T25 t106 t101).f0, a2, (rd_T25 t106 t101).f2⟩ : S25) ) (fun _ hk => hk); have hx21_1 := hcc21 1 _ rfl; (try simp only [show (k25).sz = 3 from rfl, Nat.mul_one, Nat.add_zero] at hx21_1); have hf21_1 := hfr21 1; (try simp only [show (k25).sz = 3 from rfl, Nat.mul_one, Nat.add_zero] at hf21_1); clear hcl21 hcc21 hfr21 hM21) | ((with_reducible refine gate_store (t := 9) (p := 40) rfl ?_); refine store_event (t := 9) (p := 40) (v := ?vo_w22) (w1 := (w20.setCell ⟨go16, (t101 : Int).toNat * 3 + 1, none⟩ (.string a2))) ?hg ?ho ?hn ?hr ?_; (case ho => rfl); (case hg => rfl); (case hn => rfl); (case hr => first | (go_simp; done) | (go_simp; rfl)); intro w22 hw; have hg : w20.grownBy w22 (some go16) := (by rw [hw]; exact HP21.2); have hp_ : Kd.R k25 25 w22 w.heap.size (fun _ => True) (.slice (some ⟨go16, 0, none⟩) t106.length co16) y109 := (by rw [hw, Ny109.out]; exact HP21.1); clear HP21; have n0_ := Aside0.mk (hp_); have n1_ := Aside0.mk ((by rw [hw]; exact below_set (HB.out) GB16.out : Below w.heap.size w w22)); clear HO108; clear HB; have HO108 := n0_; have HB := n1_; clear n0_ n1_; clear hg hw hp_))
            go_ret2
            exact ⟨_, by first | rfl | (simp [errW_none, errW_some] <;> rfl) | (simp [*, errW_none, errW_some] <;> rfl), by (with_reducible repeat (first | apply Kd.R_alloc | apply Kd.R_drewN | apply Kd.R_drew)); exact HO108.out, by repeat (first | (with_reducible first | exact HB.out | apply below_alloc | apply pw_below_drewN | apply below_drew1) | exact HB.out)⟩
          · rw [if_neg c15] at H
            exact absurd H (by simp)
        · rw [if_neg c14] at H
          exact absurd H (by simp)
    · replace c8 := Bool.eq_false_iff.mpr c8
      subst c8
      have H1 : (some (([] : List (S25)), 1)) = some (r1, r2) := by rw [if_neg (show ¬ (false = true) by decide)] at H; exact H
      clear H
      have H := H1
      clear H1
      simp only [Option.some.injEq, Prod.mk.injEq] at H
      obtain ⟨rfl, rfl⟩ := H
      go_enter Tryd.func12, Tryd.ntmps12
      go_wp2_with (first | ((with_reducible refine gate_callee (f := 18) rfl ?_); refine goesL_ (some 16) rfl rfl Tryd.func18 (by kernel_rfl) rfl #[.slice A0 l0.length c0, .string a1] rfl (by (try simp only [List.map_toArray, List.map_cons, List.map_nil]); first | done | rfl | (simp only [List.length_drop, List.length_take]; rfl)) ?_; (with_reducible refine (schema_Schema_Find.calls _ _ l0 a1 t101 true _ ?side1 ?side2 A4.out).mono ?_); (case side1 => repeat (first | exact HR0.out | (with_reducible refine Kd.C_alloc ?_ _) | (with_reducible refine Kd.C_drewN ?_ _) | (with_reducible refine Kd.C_drew ?_))); (case side2 => exact HC0.out); rintro e w23 ⟨rfl, hb⟩; refine ⟨_, rfl, ?_⟩; have n0_ := Aside0.mk (below_step (by repeat (first | (with_reducible first | exact HB.out | apply below_alloc | apply pw_below_drewN | apply below_drew1) | exact HB.out)) hb); clear HB; have HB := n0_; clear n0_; (try clear hb); (try clear hb2); (try clear hk); (try clear hi)) | ((with_reducible refine gate_callee (f := 18) rfl ?_); refine goesL_ (some 22) rfl rfl Tryd.func18 (by kernel_rfl) rfl #[.slice A0 l0.length c0, .string a2] rfl (by (try simp only [List.map_toArray, List.map_cons, List.map_nil]); first | done | rfl | (simp only [List.length_drop, List.length_take]; rfl)) ?_; (with_reducible refine (schema_Schema_Find.calls _ _ l0 a2 t103 t104 _ ?side1 ?side2 A5.out).mono ?_); (case side1 => repeat (first | exact (Kd.C_below HR0.out HB.out) | (with_reducible refine Kd.C_alloc ?_ _) | (with_reducible refine Kd.C_drewN ?_ _) | (with_reducible refine Kd.C_drew ?_))); (case side2 => exact HC0.out); rintro e w24 ⟨rfl, hb⟩; refine ⟨_, rfl, ?_⟩; have n0_ := Aside0.mk (below_step (by repeat (first | (with_reducible first | exact HB.out | apply below_alloc | apply pw_below_drewN | apply below_drew1) | exact HB.out)) hb); clear HB; have HB := n0_; clear n0_; (try clear hb); (try clear hb2); (try clear hk); (try clear hi)) | ((with_reducible refine gate_callee (f := 28) rfl ?_); refine goesL_ (some 30) rfl rfl Tryd.func28 (by kernel_rfl) rfl #[.string a2] rfl (by (try simp only [List.map_toArray, List.map_cons, List.map_nil]); first | done | rfl | (simp only [List.length_drop, List.length_take]; rfl)) ?_; (with_reducible refine (schema_Name.calls k a2 false _ A7.out).mono ?_); rintro e w25 ⟨rfl, hb⟩; refine ⟨_, rfl, ?_⟩; have n0_ := Aside0.mk (below_step (by repeat (first | (with_reducible first | exact HB.out | apply below_alloc | apply pw_below_drewN | apply below_drew1) | exact HB.out)) hb); clear HB; have HB := n0_; clear n0_; (try clear hb); (try clear hb2); (try clear hk); (try clear hi)))
      go_ret2
      exact ⟨_, by first | rfl | (simp [errW_none, errW_some] <;> rfl) | (simp [*, errW_none, errW_some] <;> rfl), by first | exact Kd.R_nil _ _ _ _ _ | exact Kd.N_nil _ _ _ _ _ | exact Kd.V_nil _ _ _ _ _ | exact Kd.Q_nil _ _ _ _ _ | exact Kd.S_nil _ _ _ _ _, by repeat (first | (with_reducible first | exact HB.out | apply below_alloc | apply pw_below_drewN | apply below_drew1) | exact HB.out)⟩
  · replace c6 := Bool.eq_false_iff.mpr c6
    subst c6
    have H1 : (some (([] : List (S25)), 121)) = some (r1, r2) := by rw [if_neg (show ¬ (false = true) by decide)] at H; exact H
    clear H
    have H := H1
    clear H1
    simp only [Option.some.injEq, Prod.mk.injEq] at H
    obtain ⟨rfl, rfl⟩ := H
    go_enter Tryd.func12, Tryd.ntmps12
    go_wp2_with (first | ((with_reducible refine gate_callee (f := 18) rfl ?_); refine goesL_ (some 16) rfl rfl Tryd.func18 (by kernel_rfl) rfl #[.slice A0 l0.length c0, .string a1] rfl (by (try simp only [List.map_toArray, List.map_cons, List.map_nil]); first | done | rfl | (simp only [List.length_drop, List.length_take]; rfl)) ?_; (with_reducible refine (schema_Schema_Find.calls _ _ l0 a1 t101 false _ ?side1 ?side2 A4.out).mono ?_); (case side1 => repeat (first | exact HR0.out | (with_reducible refine Kd.C_alloc ?_ _) | (with_reducible refine Kd.C_drewN ?_ _) | (with_reducible refine Kd.C_drew ?_))); (case side2 => exact HC0.out); rintro e w26 ⟨rfl, hb⟩; refine ⟨_, rfl, ?_⟩; have n0_ := Aside0.mk (below_step (by repeat (first | (with_reducible first | exact HB.out | apply below_alloc | apply pw_below_drewN | apply below_drew1) | exact HB.out)) hb); clear HB; have HB := n0_; clear n0_; (try clear hb); (try clear hb2); (try clear hk); (try clear hi)) | ((with_reducible refine gate_callee (f := 18) rfl ?_); refine goesL_ (some 22) rfl rfl Tryd.func18 (by kernel_rfl) rfl #[.slice A0 l0.length c0, .string a2] rfl (by (try simp only [List.map_toArray, List.map_cons, List.map_nil]); first | done | rfl | (simp only [List.length_drop, List.length_take]; rfl)) ?_; (with_reducible refine (schema_Schema_Find.calls _ _ l0 a2 t103 t104 _ ?side1 ?side2 A5.out).mono ?_); (case side1 => repeat (first | exact (Kd.C_below HR0.out HB.out) | (with_reducible refine Kd.C_alloc ?_ _) | (with_reducible refine Kd.C_drewN ?_ _) | (with_reducible refine Kd.C_drew ?_))); (case side2 => exact HC0.out); rintro e w27 ⟨rfl, hb⟩; refine ⟨_, rfl, ?_⟩; have n0_ := Aside0.mk (below_step (by repeat (first | (with_reducible first | exact HB.out | apply below_alloc | apply pw_below_drewN | apply below_drew1) | exact HB.out)) hb); clear HB; have HB := n0_; clear n0_; (try clear hb); (try clear hb2); (try clear hk); (try clear hi)))
    go_ret2
    exact ⟨_, by first | rfl | (simp [errW_none, errW_some] <;> rfl) | (simp [*, errW_none, errW_some] <;> rfl), by first | exact Kd.R_nil _ _ _ _ _ | exact Kd.N_nil _ _ _ _ _ | exact Kd.V_nil _ _ _ _ _ | exact Kd.Q_nil _ _ _ _ _ | exact Kd.S_nil _ _ _ _ _, by repeat (first | (with_reducible first | exact HB.out | apply below_alloc | apply pw_below_drewN | apply below_drew1) | exact HB.out)⟩

/-! ### schema_Schema_Widen: function 14 -/
def schema_Schema_Widen.f (k : Nat) (l0 : List (S25)) (a1 : ByteArray) (a2 : Int) : Option ((List (S25)) × Int) := (schema_Schema_Find.f l0 a1).bind fun bt110 => (if bt110.2 = true then ((schema_kind.f a2).bind fun t112 => (if t112 = true then (if 0 ≤ bt110.1 then (if bt110.1 < (l0.length : Int) then ((value_Wider.f k a2 ((rd_T25 l0 bt110.1).f2)).bind fun t114 => (if t114 = true then ((slices_Clone.f l0).bind fun t115 => (if bt110.1 < (t115.length : Int) then (some ((t115.set (bt110.1 : Int).toNat (⟨(rd_T25 t115 bt110.1).f0, (rd_T25 t115 bt110.1).f1, a2⟩ : S25)), 0)) else (none))) else (some (([] : List (S25)), 12)))) else (none)) else (none)) else (some (([] : List (S25)), 1)))) else (some (([] : List (S25)), 121)))
theorem schema_Schema_Widen.mono : ∀ a0 a1 a2 k, LeO (schema_Schema_Widen.f k a0 a1 a2) (schema_Schema_Widen.f (k + 1) a0 a1 a2) := by
  intro a0 a1 a2 k
  unfold schema_Schema_Widen.f
  repeat' first
      | (with_reducible exact value_Wider.mono _ _ _)
      | (with_reducible exact LeO.refl _)
      | (with_reducible exact LeO.none _)
      | (with_reducible refine LeO.ite ?_ ?_)
      | (with_reducible refine LeO.bind ?_ (fun _ => ?_))
      | exact value_Wider.mono _ _ _
      | exact LeO.none _
      | refine LeO.ite ?_ ?_
      | refine LeO.bind ?_ (fun _ => ?_)
set_option maxHeartbeats 8000000 in
set_option maxRecDepth 100000 in
theorem schema_Schema_Widen.calls (k : Nat) (A0 : Option Addr) (c0 : Nat) (l0 : List (S25)) (a1 : ByteArray) (a2 : Int) (r1 : List (S25)) (r2 : Int) (w : World) (hr0 : Kd.C k25 w A0 l0.length l0) (hc0 : l0.length ≤ c0) (h : schema_Schema_Widen.f k l0 a1 a2 = some (r1, r2)) :
    Calls Tryd.prog 14 #[.slice A0 l0.length c0, .string a1, .int .i64 a2] w fun e w' => ∃ v0_ : Value, e = .returned (.tuple #[v0_, .int .i64 r2]) ∧ Kd.R k25 25 w' w.heap.size (fun _ => True) v0_ r1 ∧ Below w.heap.size w w' := by
  have HR0 := Aside0.mk hr0
  have HC0 := Aside0.mk hc0
  clear hr0 hc0
  have HB := Aside0.mk (Below.refl w.heap.size w)
  have H : ((schema_Schema_Find.f l0 a1).bind fun bt110 => (if bt110.2 = true then ((schema_kind.f a2).bind fun t112 => (if t112 = true then (if 0 ≤ bt110.1 then (if bt110.1 < (l0.length : Int) then ((value_Wider.f k a2 ((rd_T25 l0 bt110.1).f2)).bind fun t114 => (if t114 = true then ((slices_Clone.f l0).bind fun t115 => (if bt110.1 < (t115.length : Int) then (some ((t115.set (bt110.1 : Int).toNat (⟨(rd_T25 t115 bt110.1).f0, (rd_T25 t115 bt110.1).f1, a2⟩ : S25)), 0)) else (none))) else (some (([] : List (S25)), 12)))) else (none)) else (none)) else (some (([] : List (S25)), 1)))) else (some (([] : List (S25)), 121)))) = some (r1, r2) := h
  clear h
  replace H := Option.bind_eq_some_iff.mp H
  obtain ⟨⟨t110, t111⟩, A40, H⟩ := H
  replace H : (if t111 = true then ((schema_kind.f a2).bind fun t112 => (if t112 = true then (if 0 ≤ t110 then (if t110 < (l0.length : Int) then ((value_Wider.f k a2 ((rd_T25 l0 t110).f2)).bind fun t114 => (if t114 = true then ((slices_Clone.f l0).bind fun t115 => (if t110 < (t115.length : Int) then (some ((t115.set (t110 : Int).toNat (⟨(rd_T25 t115 t110).f0, (rd_T25 t115 t110).f1, a2⟩ : S25)), 0)) else (none))) else (some (([] : List (S25)), 12)))) else (none)) else (none)) else (some (([] : List (S25)), 1)))) else (some (([] : List (S25)), 121))) = some (r1, r2) := H
  have A4 := Aside0.mk A40
  clear A40
  by_cases c5 : t111 = true
  · subst c5
    have H1 : ((schema_kind.f a2).bind fun t112 => (if t112 = true then (if 0 ≤ t110 then (if t110 < (l0.length : Int) then ((value_Wider.f k a2 ((rd_T25 l0 t110).f2)).bind fun t114 => (if t114 = true then ((slices_Clone.f l0).bind fun t115 => (if t110 < (t115.length : Int) then (some ((t115.set (t110 : Int).toNat (⟨(rd_T25 t115 t110).f0, (rd_T25 t115 t110).f1, a2⟩ : S25)), 0)) else (none))) else (some (([] : List (S25)), 12)))) else (none)) else (none)) else (some (([] : List (S25)), 1)))) = some (r1, r2) := by rw [if_pos rfl] at H; exact H
    clear H
    have H := H1
    clear H1
    replace H := Option.bind_eq_some_iff.mp H
    obtain ⟨t112, A60, H⟩ := H
    replace H : (if t112 = true then (if 0 ≤ t110 then (if t110 < (l0.length : Int) then ((value_Wider.f k a2 ((rd_T25 l0 t110).f2)).bind fun t114 => (if t114 = true then ((slices_Clone.f l0).bind fun t115 => (if t110 < (t115.length : Int) then (some ((t115.set (t110 : Int).toNat (⟨(rd_T25 t115 t110).f0, (rd_T25 t115 t110).f1, a2⟩ : S25)), 0)) else (none))) else (some (([] : List (S25)), 12)))) else (none)) else (none)) else (some (([] : List (S25)), 1))) = some (r1, r2) := H
    have A6 := Aside0.mk A60
    clear A60
    by_cases c7 : t112 = true
    · subst c7
      have H1 : (if 0 ≤ t110 then (if t110 < (l0.length : Int) then ((value_Wider.f k a2 ((rd_T25 l0 t110).f2)).bind fun t114 => (if t114 = true then ((slices_Clone.f l0).bind fun t115 => (if t110 < (t115.length : Int) then (some ((t115.set (t110 : Int).toNat (⟨(rd_T25 t115 t110).f0, (rd_T25 t115 t110).f1, a2⟩ : S25)), 0)) else (none))) else (some (([] : List (S25)), 12)))) else (none)) else (none)) = some (r1, r2) := by rw [if_pos rfl] at H; exact H
      clear H
      have H := H1
      clear H1
      by_cases c8 : 0 ≤ t110
      · rw [if_pos c8] at H
        have c8b0 : decide (0 ≤ t110) = true := decide_eq_true c8
        clear c8
        by_cases c9 : t110 < (l0.length : Int)
        · rw [if_pos c9] at H
          have c9b0 : decide (t110 < (l0.length : Int)) = true := decide_eq_true c9
          clear c9
          replace H := Option.bind_eq_some_iff.mp H
          obtain ⟨t114, A100, H⟩ := H
          replace H : (if t114 = true then ((slices_Clone.f l0).bind fun t115 => (if t110 < (t115.length : Int) then (some ((t115.set (t110 : Int).toNat (⟨(rd_T25 t115 t110).f0, (rd_T25 t115 t110).f1, a2⟩ : S25)), 0)) else (none))) else (some (([] : List (S25)), 12))) = some (r1, r2) := H
          have A10 := Aside0.mk A100
          clear A100
          by_cases c11 : t114 = true
          · subst c11
            have H1 : ((slices_Clone.f l0).bind fun t115 => (if t110 < (t115.length : Int) then (some ((t115.set (t110 : Int).toNat (⟨(rd_T25 t115 t110).f0, (rd_T25 t115 t110).f1, a2⟩ : S25)), 0)) else (none))) = some (r1, r2) := by rw [if_pos rfl] at H; exact H
            clear H
            have H := H1
            clear H1
            replace H := Option.bind_eq_some_iff.mp H
            obtain ⟨t115, A120, H⟩ := H
            replace H : (if t110 < (t115.length : Int) then (some ((t115.set (t110 : Int).toNat (⟨(rd_T25 t115 t110).f0, (rd_T25 t115 t110).f1, a2⟩ : S25)), 0)) else (none)) = some (r1, r2) := H
            have A12 := Aside0.mk A120
            clear A120
            by_cases c13 : t110 < (t115.length : Int)
            · rw [if_pos c13] at H
              have c13b0 : decide (t110 < (t115.length : Int)) = true := decide_eq_true c13
              clear c13
              obtain ⟨y118, hy118⟩ : ∃ y_ : List (S25), y_ = (t115.set (t110 : Int).toNat (⟨(rd_T25 t115 t110).f0, (rd_T25 t115 t110).f1, a2⟩ : S25)) := ⟨_, rfl⟩
              replace H : (some (y118, 0)) = some (r1, r2) := by first | (rw [hy118]; with_reducible exact H) | (have H2_ := (Option.bind_some _ _).symm.trans H; rw [hy118]; with_reducible exact H2_) | (have H2_ := (Option.bind_some _ _).symm.trans H; with_reducible exact H2_) | with_reducible exact H | (rw [hy118]; exact H) | exact H
              have Ny118 := Aside0.mk hy118
              clear hy118
              simp only [Option.some.injEq, Prod.mk.injEq] at H
              obtain ⟨rfl, rfl⟩ := H
              go_enter Tryd.func14, Tryd.ntmps14
              go_wp2_with (first | ((with_reducible refine gate_callee (f := 18) rfl ?_); refine goesL_ (some 14) rfl rfl Tryd.func18 (by kernel_rfl) rfl #[.slice A0 l0.length c0, .string a1] rfl (by (try simp only [List.map_toArray, List.map_cons, List.map_nil]); first | done | rfl | (simp only [List.length_drop, List.length_take]; rfl)) ?_; (with_reducible refine (schema_Schema_Find.calls _ _ l0 a1 t110 true _ ?side1 ?side2 A4.out).mono ?_); (case side1 => repeat (first | exact HR0.out | (with_reducible refine Kd.C_alloc ?_ _) | (with_reducible refine Kd.C_drewN ?_ _) | (with_reducible refine Kd.C_drew ?_))); (case side2 => exact HC0.out); rintro e w15 ⟨rfl, hb⟩; refine ⟨_, rfl, ?_⟩; have n0_ := Aside0.mk (below_step (by repeat (first | (with_reducible first | exact HB.out | apply below_alloc | apply pw_below_drewN | apply below_drew1) | exact HB.out)) hb); clear HB; have HB := n0_; clear n0_; (try clear hb); (try clear hb2); (try clear hk); (try clear hi)) | ((with_reducible refine gate_callee (f := 36) rfl ?_); refine goesL_ (some 22) rfl rfl Tryd.func36 (by kernel_rfl) rfl #[.int .i64 a2] rfl (by (try simp only [List.map_toArray, List.map_cons, List.map_nil]); first | done | rfl | (simp only [List.length_drop, List.length_take]; rfl)) ?_; (with_reducible refine (schema_kind.calls a2 true _ A6.out).mono ?_); rintro e w16 ⟨rfl, hb⟩; refine ⟨_, rfl, ?_⟩; have n0_ := Aside0.mk (below_step (by repeat (first | (with_reducible first | exact HB.out | apply below_alloc | apply pw_below_drewN | apply below_drew1) | exact HB.out)) hb); clear HB; have HB := n0_; clear n0_; (try clear hb); (try clear hb2); (try clear hk); (try clear hi); have p113 : 0 ≤ (t110 : Int) := of_decide_eq_true (by first | (with_reducible assumption) | assumption); have q113 : t110 < (l0.length : Int) := of_decide_eq_true (by first | (with_reducible assumption) | assumption); obtain ⟨ad113, e113, hx113_0, hx113_1, hx113_2⟩ := at_T25 HR0.out t110 p113 q113; cases e113; replace hx113_0 := (HB.out.cell (World.block_lt_of_cell? w _ hx113_0)).trans hx113_0; replace hx113_1 := (HB.out.cell (World.block_lt_of_cell? w _ hx113_1)).trans hx113_1; replace hx113_2 := (HB.out.cell (World.block_lt_of_cell? w _ hx113_2)).trans hx113_2; replace p113 := eq_true p113; replace q113 := eq_true q113) | ((with_reducible refine gate_callee (f := 37) rfl ?_); refine goesL_ (some 31) rfl rfl Tryd.func37 (by kernel_rfl) rfl #[.int .i64 a2, .int .i64 ((rd_T25 l0 t110).f2)] rfl (by (try simp only [List.map_toArray, List.map_cons, List.map_nil]); first | done | rfl | (simp only [List.length_drop, List.length_take]; rfl)) ?_; (with_reducible refine (value_Wider.calls k a2 ((rd_T25 l0 t110).f2) true _ A10.out).mono ?_); rintro e w' ⟨rfl, ⟨nd, rfl⟩⟩; refine ⟨_, rfl, ?_⟩; (try (rw [drewN_self w16]; generalize hq_ : World.drewN w16 _ = w16; have n0_ : Aside0 (Below w.heap.size w w16) := ⟨by rw [← hq_]; exact (by repeat (first | (with_reducible first | exact HB.out | apply below_alloc | apply pw_below_drewN | apply below_drew1) | exact HB.out))⟩; clear HB hq_; have HB := n0_; clear n0_))) | ((with_reducible refine gate_callee (f := 33) rfl ?_); refine goesL_ (some 34) rfl rfl Tryd.func33 (by kernel_rfl) rfl #[.slice (some ad113) l0.length c0] rfl (by (try simp only [List.map_toArray, List.map_cons, List.map_nil]); first | done | rfl | (simp only [List.length_drop, List.length_take]; rfl)) ?_; (with_reducible refine (slices_Clone.calls _ _ l0 t115 _ ?side1 ?side2 A12.out).mono ?_); (case side1 => repeat (first | exact (Kd.C_below HR0.out HB.out) | (with_reducible refine Kd.C_alloc ?_ _) | (with_reducible refine Kd.C_drewN ?_ _) | (with_reducible refine Kd.C_drew ?_))); (case side2 => exact HC0.out); rintro e w17 ⟨v116, rfl, ho0, hb⟩; refine ⟨_, rfl, ?_⟩; have n0_ := Aside0.mk (Kd.R_lower ho0 (below_size (by repeat (first | (with_reducible first | exact HB.out | apply below_alloc | apply pw_below_drewN | apply below_drew1) | exact HB.out)))); have n1_ := Aside0.mk (below_step (by repeat (first | (with_reducible first | exact HB.out | apply below_alloc | apply pw_below_drewN | apply below_drew1) | exact HB.out)) hb); clear HB; have HO117 := n0_; have HB := n1_; clear n0_ n1_; (try clear hb); (try clear hb2); (try clear hk); (try clear hi); (try clear ho0); have p14 : 0 ≤ (t110 : Int) := of_decide_eq_true (by first | (with_reducible assumption) | assumption); have q14 : (t110 : Int) < ((t115.length : Int) : Int) := of_decide_eq_true (by first | (with_reducible assumption) | assumption); obtain ⟨go14, co14, eo14, gb14, gl14, cl14, HG14⟩ := Kd.R_form HO117.out (by omega); (first | cases eo14 | (injection eo14 with ea_ en_ ec_; (first | subst ea_ | (injection ea_ with ea_; subst ea_)); subst ec_; clear en_)); have GB14 := Aside0.mk gb14; have GG14 := Aside0.mk HG14; clear gb14 gl14 HG14; obtain ⟨ce14, hcl14, hM14, hcc14, hfr14⟩ := Kd.R_elem HO117.out z25 (t110 : Int) p14 q14; obtain rfl := k25_openM hM14; have hx14_0 : w17.cell? ⟨go14, (t110 : Int).toNat * 3, none⟩ = some (.int .i64 ((rd_T25 t115 t110).f0)) := hcc14 0 _ rfl; have hx14_1 : w17.cell? ⟨go14, (t110 : Int).toNat * 3 + 1, none⟩ = some (.string ((rd_T25 t115 t110).f1)) := hcc14 1 _ rfl; have hx14_2 : w17.cell? ⟨go14, (t110 : Int).toNat * 3 + 2, none⟩ = some (.int .i64 ((rd_T25 t115 t110).f2)) := hcc14 2 _ rfl; have hf14_0 : w17.frozen? ⟨go14, (t110 : Int).toNat * 3, none⟩ = false := hfr14 0; have hf14_1 : w17.frozen? ⟨go14, (t110 : Int).toNat * 3 + 1, none⟩ = false := hfr14 1; have hf14_2 : w17.frozen? ⟨go14, (t110 : Int).toNat * 3 + 2, none⟩ = false := hfr14 2; clear hcl14 hcc14 hfr14 hM14; replace p14 := eq_true p14; replace q14 := eq_true q14; have HX18 := Aside0.mk (show Kd.R k25 25 w17 w.heap.size (fun _ => True) (.slice (some ⟨go14, 0, none⟩) t115.length co14) t115 from (by (with_reducible repeat (first | apply Kd.R_alloc | apply Kd.R_drewN | apply Kd.R_drew)); exact HO117.out)); obtain ⟨ce18, hcl18, hM18, hcc18, hfr18⟩ := Kd.R_elem HX18.out z25 (t110 : Int) (of_decide_eq_true (by first | (with_reducible assumption) | assumption)) (by have h_ : (t110 : Int) < ((t115.length : Int) : Int) := of_decide_eq_true (by first | (with_reducible assumption) | assumption); first | exact h_ | (have e_ := (Kd.R_reads' HO117.out).1; omega) | simpa using h_); obtain rfl := k25_openM hM18; have HP18 := Kd.R_seg HX18.out (t110 : Int) (of_decide_eq_true (by first | (with_reducible assumption) | assumption)) (by have h_ : (t110 : Int) < ((t115.length : Int) : Int) := of_decide_eq_true (by first | (with_reducible assumption) | assumption); first | exact h_ | (have e_ := (Kd.R_reads' HO117.out).1; omega) | simpa using h_) (seg := [.int .i64 a2]) (j := 2) hcl18 hcc18 (show 3 ≤ 3 from by decide) (x' := (⟨(rd_T25 t115 t110).f0, (rd_T25 t115 t110).f1, a2⟩ : S25)) (k25_mkM _ _ _ (⟨(rd_T25 t115 t110).f0, (rd_T25 t115 t110).f1, a2⟩ : S25) ) (fun _ hk => hk); have hx18_2 := hcc18 2 _ rfl; (try simp only [show (k25).sz = 3 from rfl, Nat.mul_one, Nat.add_zero] at hx18_2); have hf18_2 := hfr18 2; (try simp only [show (k25).sz = 3 from rfl, Nat.mul_one, Nat.add_zero] at hf18_2); clear hcl18 hcc18 hfr18 hM18) | ((with_reducible refine gate_store (t := 23) (p := 39) rfl ?_); refine store_event (t := 23) (p := 39) (v := ?vo_w19) (w1 := (w17.setCell ⟨go14, (t110 : Int).toNat * 3 + 2, none⟩ (.int .i64 a2))) ?hg ?ho ?hn ?hr ?_; (case ho => rfl); (case hg => rfl); (case hn => rfl); (case hr => first | (go_simp; done) | (go_simp; rfl)); intro w19 hw; have hg : w17.grownBy w19 (some go14) := (by rw [hw]; exact HP18.2); have hp_ : Kd.R k25 25 w19 w.heap.size (fun _ => True) (.slice (some ⟨go14, 0, none⟩) t115.length co14) y118 := (by rw [hw, Ny118.out]; exact HP18.1); clear HP18; have n0_ := Aside0.mk (hp_); have n1_ := Aside0.mk ((by rw [hw]; exact below_set (HB.out) GB14.out : Below w.heap.size w w19)); clear HO117; clear HB; have HO117 := n0_; have HB := n1_; clear n0_ n1_; clear hg hw hp_))
              go_ret2
              exact ⟨_, by first | rfl | (simp [errW_none, errW_some] <;> rfl) | (simp [*, errW_none, errW_some] <;> rfl), by (with_reducible repeat (first | apply Kd.R_alloc | apply Kd.R_drewN | apply Kd.R_drew)); exact HO117.out, by repeat (first | (with_reducible first | exact HB.out | apply below_alloc | apply pw_below_drewN | apply below_drew1) | exact HB.out)⟩
            · rw [if_neg c13] at H
              exact absurd H (by simp)
          · replace c11 := Bool.eq_false_iff.mpr c11
            subst c11
            have H1 : (some (([] : List (S25)), 12)) = some (r1, r2) := by rw [if_neg (show ¬ (false = true) by decide)] at H; exact H
            clear H
            have H := H1
            clear H1
            simp only [Option.some.injEq, Prod.mk.injEq] at H
            obtain ⟨rfl, rfl⟩ := H
            go_enter Tryd.func14, Tryd.ntmps14
            go_wp2_with (first | ((with_reducible refine gate_callee (f := 18) rfl ?_); refine goesL_ (some 14) rfl rfl Tryd.func18 (by kernel_rfl) rfl #[.slice A0 l0.length c0, .string a1] rfl (by (try simp only [List.map_toArray, List.map_cons, List.map_nil]); first | done | rfl | (simp only [List.length_drop, List.length_take]; rfl)) ?_; (with_reducible refine (schema_Schema_Find.calls _ _ l0 a1 t110 true _ ?side1 ?side2 A4.out).mono ?_); (case side1 => repeat (first | exact HR0.out | (with_reducible refine Kd.C_alloc ?_ _) | (with_reducible refine Kd.C_drewN ?_ _) | (with_reducible refine Kd.C_drew ?_))); (case side2 => exact HC0.out); rintro e w20 ⟨rfl, hb⟩; refine ⟨_, rfl, ?_⟩; have n0_ := Aside0.mk (below_step (by repeat (first | (with_reducible first | exact HB.out | apply below_alloc | apply pw_below_drewN | apply below_drew1) | exact HB.out)) hb); clear HB; have HB := n0_; clear n0_; (try clear hb); (try clear hb2); (try clear hk); (try clear hi)) | ((with_reducible refine gate_callee (f := 36) rfl ?_); refine goesL_ (some 22) rfl rfl Tryd.func36 (by kernel_rfl) rfl #[.int .i64 a2] rfl (by (try simp only [List.map_toArray, List.map_cons, List.map_nil]); first | done | rfl | (simp only [List.length_drop, List.length_take]; rfl)) ?_; (with_reducible refine (schema_kind.calls a2 true _ A6.out).mono ?_); rintro e w21 ⟨rfl, hb⟩; refine ⟨_, rfl, ?_⟩; have n0_ := Aside0.mk (below_step (by repeat (first | (with_reducible first | exact HB.out | apply below_alloc | apply pw_below_drewN | apply below_drew1) | exact HB.out)) hb); clear HB; have HB := n0_; clear n0_; (try clear hb); (try clear hb2); (try clear hk); (try clear hi); have p113 : 0 ≤ (t110 : Int) := of_decide_eq_true (by first | (with_reducible assumption) | assumption); have q113 : t110 < (l0.length : Int) := of_decide_eq_true (by first | (with_reducible assumption) | assumption); obtain ⟨ad113, e113, hx113_0, hx113_1, hx113_2⟩ := at_T25 HR0.out t110 p113 q113; cases e113; replace hx113_0 := (HB.out.cell (World.block_lt_of_cell? w _ hx113_0)).trans hx113_0; replace hx113_1 := (HB.out.cell (World.block_lt_of_cell? w _ hx113_1)).trans hx113_1; replace hx113_2 := (HB.out.cell (World.block_lt_of_cell? w _ hx113_2)).trans hx113_2; replace p113 := eq_true p113; replace q113 := eq_true q113) | ((with_reducible refine gate_callee (f := 37) rfl ?_); refine goesL_ (some 31) rfl rfl Tryd.func37 (by kernel_rfl) rfl #[.int .i64 a2, .int .i64 ((rd_T25 l0 t110).f2)] rfl (by (try simp only [List.map_toArray, List.map_cons, List.map_nil]); first | done | rfl | (simp only [List.length_drop, List.length_take]; rfl)) ?_; (with_reducible refine (value_Wider.calls k a2 ((rd_T25 l0 t110).f2) false _ A10.out).mono ?_); rintro e w' ⟨rfl, ⟨nd, rfl⟩⟩; refine ⟨_, rfl, ?_⟩))
            go_ret2
            exact ⟨_, by first | rfl | (simp [errW_none, errW_some] <;> rfl) | (simp [*, errW_none, errW_some] <;> rfl), by first | exact Kd.R_nil _ _ _ _ _ | exact Kd.N_nil _ _ _ _ _ | exact Kd.V_nil _ _ _ _ _ | exact Kd.Q_nil _ _ _ _ _ | exact Kd.S_nil _ _ _ _ _, by repeat (first | (with_reducible first | exact HB.out | apply below_alloc | apply pw_below_drewN | apply below_drew1) | exact HB.out)⟩
        · rw [if_neg c9] at H
          exact absurd H (by simp)
      · rw [if_neg c8] at H
        exact absurd H (by simp)
    · replace c7 := Bool.eq_false_iff.mpr c7
      subst c7
      have H1 : (some (([] : List (S25)), 1)) = some (r1, r2) := by rw [if_neg (show ¬ (false = true) by decide)] at H; exact H
      clear H
      have H := H1
      clear H1
      simp only [Option.some.injEq, Prod.mk.injEq] at H
      obtain ⟨rfl, rfl⟩ := H
      go_enter Tryd.func14, Tryd.ntmps14
      go_wp2_with (first | ((with_reducible refine gate_callee (f := 18) rfl ?_); refine goesL_ (some 14) rfl rfl Tryd.func18 (by kernel_rfl) rfl #[.slice A0 l0.length c0, .string a1] rfl (by (try simp only [List.map_toArray, List.map_cons, List.map_nil]); first | done | rfl | (simp only [List.length_drop, List.length_take]; rfl)) ?_; (with_reducible refine (schema_Schema_Find.calls _ _ l0 a1 t110 true _ ?side1 ?side2 A4.out).mono ?_); (case side1 => repeat (first | exact HR0.out | (with_reducible refine Kd.C_alloc ?_ _) | (with_reducible refine Kd.C_drewN ?_ _) | (with_reducible refine Kd.C_drew ?_))); (case side2 => exact HC0.out); rintro e w22 ⟨rfl, hb⟩; refine ⟨_, rfl, ?_⟩; have n0_ := Aside0.mk (below_step (by repeat (first | (with_reducible first | exact HB.out | apply below_alloc | apply pw_below_drewN | apply below_drew1) | exact HB.out)) hb); clear HB; have HB := n0_; clear n0_; (try clear hb); (try clear hb2); (try clear hk); (try clear hi)) | ((with_reducible refine gate_callee (f := 36) rfl ?_); refine goesL_ (some 22) rfl rfl Tryd.func36 (by kernel_rfl) rfl #[.int .i64 a2] rfl (by (try simp only [List.map_toArray, List.map_cons, List.map_nil]); first | done | rfl | (simp only [List.length_drop, List.length_take]; rfl)) ?_; (with_reducible refine (schema_kind.calls a2 false _ A6.out).mono ?_); rintro e w23 ⟨rfl, hb⟩; refine ⟨_, rfl, ?_⟩; have n0_ := Aside0.mk (below_step (by repeat (first | (with_reducible first | exact HB.out | apply below_alloc | apply pw_below_drewN | apply below_drew1) | exact HB.out)) hb); clear HB; have HB := n0_; clear n0_; (try clear hb); (try clear hb2); (try clear hk); (try clear hi)))
      go_ret2
      exact ⟨_, by first | rfl | (simp [errW_none, errW_some] <;> rfl) | (simp [*, errW_none, errW_some] <;> rfl), by first | exact Kd.R_nil _ _ _ _ _ | exact Kd.N_nil _ _ _ _ _ | exact Kd.V_nil _ _ _ _ _ | exact Kd.Q_nil _ _ _ _ _ | exact Kd.S_nil _ _ _ _ _, by repeat (first | (with_reducible first | exact HB.out | apply below_alloc | apply pw_below_drewN | apply below_drew1) | exact HB.out)⟩
  · replace c5 := Bool.eq_false_iff.mpr c5
    subst c5
    have H1 : (some (([] : List (S25)), 121)) = some (r1, r2) := by rw [if_neg (show ¬ (false = true) by decide)] at H; exact H
    clear H
    have H := H1
    clear H1
    simp only [Option.some.injEq, Prod.mk.injEq] at H
    obtain ⟨rfl, rfl⟩ := H
    go_enter Tryd.func14, Tryd.ntmps14
    go_wp2_with (first | ((with_reducible refine gate_callee (f := 18) rfl ?_); refine goesL_ (some 14) rfl rfl Tryd.func18 (by kernel_rfl) rfl #[.slice A0 l0.length c0, .string a1] rfl (by (try simp only [List.map_toArray, List.map_cons, List.map_nil]); first | done | rfl | (simp only [List.length_drop, List.length_take]; rfl)) ?_; (with_reducible refine (schema_Schema_Find.calls _ _ l0 a1 t110 false _ ?side1 ?side2 A4.out).mono ?_); (case side1 => repeat (first | exact HR0.out | (with_reducible refine Kd.C_alloc ?_ _) | (with_reducible refine Kd.C_drewN ?_ _) | (with_reducible refine Kd.C_drew ?_))); (case side2 => exact HC0.out); rintro e w24 ⟨rfl, hb⟩; refine ⟨_, rfl, ?_⟩; have n0_ := Aside0.mk (below_step (by repeat (first | (with_reducible first | exact HB.out | apply below_alloc | apply pw_below_drewN | apply below_drew1) | exact HB.out)) hb); clear HB; have HB := n0_; clear n0_; (try clear hb); (try clear hb2); (try clear hk); (try clear hi)))
    go_ret2
    exact ⟨_, by first | rfl | (simp [errW_none, errW_some] <;> rfl) | (simp [*, errW_none, errW_some] <;> rfl), by first | exact Kd.R_nil _ _ _ _ _ | exact Kd.N_nil _ _ _ _ _ | exact Kd.V_nil _ _ _ _ _ | exact Kd.Q_nil _ _ _ _ _ | exact Kd.S_nil _ _ _ _ _, by repeat (first | (with_reducible first | exact HB.out | apply below_alloc | apply pw_below_drewN | apply below_drew1) | exact HB.out)⟩

end Go.Proofs.YtkggdnnhgafopaaDoor.Jp
