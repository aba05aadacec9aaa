/- What each function comes to, a contract of its call each (and the row of a law out of its plain statement); no condition beyond what stands in each. -/
import Derived.Test.YtknkaaleafiifaaDoorH0
import Derived.Test.YtknkaaleafiifaaDoorH1
namespace Go.Proofs.YtknkaaleafiifaaDoor.Hp
open Go.RowKit Go.Proofs.YtknkaaleafiifaaDoorW.PrintWords Go.Proofs.YtknkaaleafiifaaDoorW.PrintLast Go.Proofs.YtknkaaleafiifaaDoorW.PrintMore
open Go.Proofs.YtknkaaleafiifaaDoor.Kp
attribute [local go_sem] max2_int min2_int max_two min_two max_three min_three max_four min_four   -- for this text's walks alone
set_option linter.unusedVariables false
set_option linter.unusedSimpArgs false

/-! ### instarlaw04_CodeJoins: function 6 -/
mutual
def instarlaw04_CodeJoins.j0 : Nat → List (S32) → List (S32) → ByteArray → ByteArray → Bool → Option (Bool)
  | 0, _, _, _, _, _ => none
  | k + 1, x0, x1, x7, x9, x45 => if x45 = true then ((instarlaw04_alive.f k).bind fun t169 => (some t169)) else ((some (([] : List (S32)) : List (S32))).bind fun y170 => (if y170.length + x0.length < 4398046511104 then ((some (y170 ++ x0 : List (S32))).bind fun y173 => (if y173.length + x1.length < 4398046511104 then ((code_Encode.f (y173 ++ x1)).bind fun bt179 => (instarlaw04_CodeJoins.l0 k x0 x7 x9 bt179.1 bt179.2 bt179.1 0)) else (none))) else (none)))
def instarlaw04_CodeJoins.l0 : Nat → List (S32) → ByteArray → ByteArray → ByteArray → Int → ByteArray → Int → Option (Bool)
  | 0, _, _, _, _, _, _, _ => none
  | k + 1, x0, x7, x9, x12, x13, x14, x15 => if x15 < (x0.length : Int) then ((code_Skip.f x14).bind fun bt181 => (if bt181.2 = 0 then (if bt181.1 < 1 then (some false) else (if bt181.1 > (x14.size : Int) then (some false) else (if 0 ≤ bt181.1 then (if bt181.1 ≤ (x14.size : Int) then (instarlaw04_CodeJoins.l0 k x0 x7 x9 x12 x13 (x14.extract (bt181.1 : Int).toNat x14.size) (wrap64 (x15 + 1))) else (none)) else (none)))) else (some false))) else ((instarlaw04_alive.f k).bind fun t183 => (if t183 = true then (if x13 = 0 then (if x7.size + x9.size ≤ 9223372036854775807 then (if x12.toList = (x7 ++ x9).toList then (some (x14.toList == x9.toList)) else (some false)) else (none)) else (some false)) else (some false)))
end
def instarlaw04_CodeJoins.f (k : Nat) (l0 : List (S32)) (l1 : List (S32)) : Option (Bool) := (instarlaw04_fits.f k l0).bind fun t163 => ((instarlaw04_fits.f k l1).bind fun t164 => ((code_Encode.f l0).bind fun bt165 => ((code_Encode.f l1).bind fun bt167 => (if t163 = true then (if t164 = true then (if bt165.2 = 0 then (instarlaw04_CodeJoins.j0 k l0 l1 bt165.1 bt167.1 (bt167.2 != 0)) else (instarlaw04_CodeJoins.j0 k l0 l1 bt165.1 bt167.1 true)) else (instarlaw04_CodeJoins.j0 k l0 l1 bt165.1 bt167.1 true)) else (instarlaw04_CodeJoins.j0 k l0 l1 bt165.1 bt167.1 true)))))
theorem instarlaw04_CodeJoins.mono_l : ∀ k, (∀ y0 y1 y2 y3 y4, LeO (instarlaw04_CodeJoins.j0 k y0 y1 y2 y3 y4) (instarlaw04_CodeJoins.j0 (k + 1) y0 y1 y2 y3 y4)) ∧ (∀ y0 y1 y2 y3 y4 y5 y6, LeO (instarlaw04_CodeJoins.l0 k y0 y1 y2 y3 y4 y5 y6) (instarlaw04_CodeJoins.l0 (k + 1) y0 y1 y2 y3 y4 y5 y6))
  | 0 => ⟨fun _ _ _ _ _ r h => by simp [instarlaw04_CodeJoins.j0] at h, fun _ _ _ _ _ _ _ r h => by simp [instarlaw04_CodeJoins.l0] at h⟩
  | k + 1 => by
    obtain ⟨ih0, ih1⟩ := instarlaw04_CodeJoins.mono_l k
    refine ⟨?_, ?_⟩
    · intro y0 y1 y2 y3 y4
      unfold instarlaw04_CodeJoins.j0
      repeat' first
      | (with_reducible exact ih0 _ _ _ _ _)
      | (with_reducible exact ih1 _ _ _ _ _ _ _)
      | (with_reducible exact instarlaw04_alive.mono _)
      | (with_reducible exact instarlaw04_fits.mono _ _)
      | (with_reducible exact LeO.refl _)
      | (with_reducible exact LeO.none _)
      | (with_reducible refine LeO.ite ?_ ?_)
      | (with_reducible refine LeO.bind ?_ (fun _ => ?_))
      | exact ih0 _ _ _ _ _
      | exact ih1 _ _ _ _ _ _ _
      | exact instarlaw04_alive.mono _
      | exact instarlaw04_fits.mono _ _
      | exact LeO.none _
      | refine LeO.ite ?_ ?_
      | refine LeO.bind ?_ (fun _ => ?_)
    · intro y0 y1 y2 y3 y4 y5 y6
      unfold instarlaw04_CodeJoins.l0
      repeat' first
      | (with_reducible exact ih0 _ _ _ _ _)
      | (with_reducible exact ih1 _ _ _ _ _ _ _)
      | (with_reducible exact instarlaw04_alive.mono _)
      | (with_reducible exact instarlaw04_fits.mono _ _)
      | (with_reducible exact LeO.refl _)
      | (with_reducible exact LeO.none _)
      | (with_reducible refine LeO.ite ?_ ?_)
      | (with_reducible refine LeO.bind ?_ (fun _ => ?_))
      | exact ih0 _ _ _ _ _
      | exact ih1 _ _ _ _ _ _ _
      | exact instarlaw04_alive.mono _
      | exact instarlaw04_fits.mono _ _
      | exact LeO.none _
      | refine LeO.ite ?_ ?_
      | refine LeO.bind ?_ (fun _ => ?_)
theorem instarlaw04_CodeJoins.mono : ∀ a0 a1 k, LeO (instarlaw04_CodeJoins.f k a0 a1) (instarlaw04_CodeJoins.f (k + 1) a0 a1) := by
  intro a0 a1 k
  obtain ⟨ih0, ih1⟩ := instarlaw04_CodeJoins.mono_l k
  unfold instarlaw04_CodeJoins.f
  repeat' first
      | (with_reducible exact ih0 _ _ _ _ _)
      | (with_reducible exact ih1 _ _ _ _ _ _ _)
      | (with_reducible exact instarlaw04_alive.mono _)
      | (with_reducible exact instarlaw04_fits.mono _ _)
      | (with_reducible exact LeO.refl _)
      | (with_reducible exact LeO.none _)
      | (with_reducible refine LeO.ite ?_ ?_)
      | (with_reducible refine LeO.bind ?_ (fun _ => ?_))
      | exact ih0 _ _ _ _ _
      | exact ih1 _ _ _ _ _ _ _
      | exact instarlaw04_alive.mono _
      | exact instarlaw04_fits.mono _ _
      | exact LeO.none _
      | refine LeO.ite ?_ ?_
      | refine LeO.bind ?_ (fun _ => ?_)
set_option maxHeartbeats 8000000 in
set_option maxRecDepth 100000 in
theorem instarlaw04_CodeJoins.calls (k : Nat) (A0 : Option Addr) (c0 : Nat) (l0 : List (S32)) (A1 : Option Addr) (c1 : Nat) (l1 : List (S32)) (r : Bool) (w : World) (hr0 : Kd.C k32 w A0 l0.length l0) (hc0 : l0.length ≤ c0) (hr1 : Kd.C k32 w A1 l1.length l1) (hc1 : l1.length ≤ c1) (h : instarlaw04_CodeJoins.f k l0 l1 = some r) :
    Calls Tryd.prog 6 #[.slice A0 l0.length c0, .slice A1 l1.length c1] w fun e w' => e = .returned (.bool r) ∧ Below w.heap.size w w' := by
  have HR0 := Aside0.mk hr0
  have HC0 := Aside0.mk hc0
  clear hr0 hc0
  have HR1 := Aside0.mk hr1
  have HC1 := Aside0.mk hc1
  clear hr1 hc1
  have HB := Aside0.mk (Below.refl w.heap.size w)
  have H : ((instarlaw04_fits.f k l0).bind fun t163 => ((instarlaw04_fits.f k l1).bind fun t164 => ((code_Encode.f l0).bind fun bt165 => ((code_Encode.f l1).bind fun bt167 => (if t163 = true then (if t164 = true then (if bt165.2 = 0 then (instarlaw04_CodeJoins.j0 k l0 l1 bt165.1 bt167.1 (bt167.2 != 0)) else (instarlaw04_CodeJoins.j0 k l0 l1 bt165.1 bt167.1 true)) else (instarlaw04_CodeJoins.j0 k l0 l1 bt165.1 bt167.1 true)) else (instarlaw04_CodeJoins.j0 k l0 l1 bt165.1 bt167.1 true)))))) = some r := h
  clear h
  replace H := Option.bind_eq_some_iff.mp H
  obtain ⟨t163, A30, H⟩ := H
  replace H : ((instarlaw04_fits.f k l1).bind fun t164 => ((code_Encode.f l0).bind fun bt165 => ((code_Encode.f l1).bind fun bt167 => (if t163 = true then (if t164 = true then (if bt165.2 = 0 then (instarlaw04_CodeJoins.j0 k l0 l1 bt165.1 bt167.1 (bt167.2 != 0)) else (instarlaw04_CodeJoins.j0 k l0 l1 bt165.1 bt167.1 true)) else (instarlaw04_CodeJoins.j0 k l0 l1 bt165.1 bt167.1 true)) else (instarlaw04_CodeJoins.j0 k l0 l1 bt165.1 bt167.1 true))))) = some r := H
  have A3 := Aside0.mk A30
  clear A30
  replace H := Option.bind_eq_some_iff.mp H
  obtain ⟨t164, A40, H⟩ := H
  replace H : ((code_Encode.f l0).bind fun bt165 => ((code_Encode.f l1).bind fun bt167 => (if t163 = true then (if t164 = true then (if bt165.2 = 0 then (instarlaw04_CodeJoins.j0 k l0 l1 bt165.1 bt167.1 (bt167.2 != 0)) else (instarlaw04_CodeJoins.j0 k l0 l1 bt165.1 bt167.1 true)) else (instarlaw04_CodeJoins.j0 k l0 l1 bt165.1 bt167.1 true)) else (instarlaw04_CodeJoins.j0 k l0 l1 bt165.1 bt167.1 true)))) = some r := H
  have A4 := Aside0.mk A40
  clear A40
  replace H := Option.bind_eq_some_iff.mp H
  obtain ⟨⟨t165, t166⟩, A50, H⟩ := H
  replace H : ((code_Encode.f l1).bind fun bt167 => (if t163 = true then (if t164 = true then (if t166 = 0 then (instarlaw04_CodeJoins.j0 k l0 l1 t165 bt167.1 (bt167.2 != 0)) else (instarlaw04_CodeJoins.j0 k l0 l1 t165 bt167.1 true)) else (instarlaw04_CodeJoins.j0 k l0 l1 t165 bt167.1 true)) else (instarlaw04_CodeJoins.j0 k l0 l1 t165 bt167.1 true))) = some r := H
  have A5 := Aside0.mk A50
  clear A50
  replace H := Option.bind_eq_some_iff.mp H
  obtain ⟨⟨t167, t168⟩, A60, H⟩ := H
  replace H : (if t163 = true then (if t164 = true then (if t166 = 0 then (instarlaw04_CodeJoins.j0 k l0 l1 t165 t167 (t168 != 0)) else (instarlaw04_CodeJoins.j0 k l0 l1 t165 t167 true)) else (instarlaw04_CodeJoins.j0 k l0 l1 t165 t167 true)) else (instarlaw04_CodeJoins.j0 k l0 l1 t165 t167 true)) = some r := H
  have A6 := Aside0.mk A60
  clear A60
  have HC7 := Aside0.mk H
  clear H
  go_enter Tryd.func6, Tryd.ntmps6
  go_upto_region 5 with (first | ((with_reducible refine gate_callee (f := 7) rfl ?_); refine goesL_ (some 19) rfl rfl Tryd.func7 (by kernel_rfl) rfl #[.slice A0 l0.length c0] rfl (by (try simp only [List.map_toArray, List.map_cons, List.map_nil]); first | done | rfl | (simp only [List.length_drop, List.length_take]; rfl)) ?_; (with_reducible refine (instarlaw04_fits.calls k _ _ l0 t163 _ ?side1 ?side2 A3.out).mono ?_); (case side1 => repeat (first | exact HR0.out | (with_reducible refine Kd.C_alloc ?_ _) | (with_reducible refine Kd.C_drewN ?_ _) | (with_reducible refine Kd.C_drew ?_))); (case side2 => exact HC0.out); rintro e w' ⟨rfl, ⟨nd, rfl⟩⟩; refine ⟨_, rfl, ?_⟩) | ((with_reducible refine gate_callee (f := 7) rfl ?_); refine goesL_ (some 21) rfl rfl Tryd.func7 (by kernel_rfl) rfl #[.slice A1 l1.length c1] rfl (by (try simp only [List.map_toArray, List.map_cons, List.map_nil]); first | done | rfl | (simp only [List.length_drop, List.length_take]; rfl)) ?_; (with_reducible refine (instarlaw04_fits.calls k _ _ l1 t164 _ ?side1 ?side2 A4.out).mono ?_); (case side1 => repeat (first | exact HR1.out | (with_reducible refine Kd.C_alloc ?_ _) | (with_reducible refine Kd.C_drewN ?_ _) | (with_reducible refine Kd.C_drew ?_))); (case side2 => exact HC1.out); rintro e w' ⟨rfl, ⟨nd, rfl⟩⟩; refine ⟨_, rfl, ?_⟩) | ((with_reducible refine gate_callee (f := 9) rfl ?_); refine goesL_ (some 24) rfl rfl Tryd.func9 (by kernel_rfl) rfl #[.slice A0 l0.length c0] rfl (by (try simp only [List.map_toArray, List.map_cons, List.map_nil]); first | done | rfl | (simp only [List.length_drop, List.length_take]; rfl)) ?_; (with_reducible refine (code_Encode.calls _ _ l0 t165 t166 _ ?side1 ?side2 A5.out).mono ?_); (case side1 => repeat (first | exact HR0.out | (with_reducible refine Kd.C_alloc ?_ _) | (with_reducible refine Kd.C_drewN ?_ _) | (with_reducible refine Kd.C_drew ?_))); (case side2 => exact HC0.out); rintro e w8 ⟨rfl, hb⟩; refine ⟨_, rfl, ?_⟩; have n0_ := Aside0.mk (below_step (by repeat (first | (with_reducible first | exact HB.out | apply below_alloc | apply pw_below_drewN | apply below_drew1) | exact HB.out)) hb); clear HB; have HB := n0_; clear n0_; (try clear hb); (try clear hb2); (try clear hk); (try clear hi)) | ((with_reducible refine gate_callee (f := 9) rfl ?_); refine goesL_ (some 29) rfl rfl Tryd.func9 (by kernel_rfl) rfl #[.slice A1 l1.length c1] rfl (by (try simp only [List.map_toArray, List.map_cons, List.map_nil]); first | done | rfl | (simp only [List.length_drop, List.length_take]; rfl)) ?_; (with_reducible refine (code_Encode.calls _ _ l1 t167 t168 _ ?side1 ?side2 A6.out).mono ?_); (case side1 => repeat (first | exact (Kd.C_below HR1.out HB.out) | (with_reducible refine Kd.C_alloc ?_ _) | (with_reducible refine Kd.C_drewN ?_ _) | (with_reducible refine Kd.C_drew ?_))); (case side2 => exact HC1.out); rintro e w9 ⟨rfl, hb⟩; refine ⟨_, rfl, ?_⟩; have n0_ := Aside0.mk (below_step (by repeat (first | (with_reducible first | exact HB.out | apply below_alloc | apply pw_below_drewN | apply below_drew1) | exact HB.out)) hb); clear HB; have HB := n0_; clear n0_; (try clear hb); (try clear hb2); (try clear hk); (try clear hi)))
  (try simp only [Act.put, List.setIfInBounds_toArray, List.set_cons_zero, List.set_cons_succ])
  go_cut [45] (fun v45 wc => ∃ (kq : Nat) (x45_6 : Bool), v45 = .bool x45_6 ∧ Aside0 (instarlaw04_CodeJoins.j0 kq l0 l1 t165 t167 x45_6 = some r) ∧ Aside0 (kq ≤ k) ∧ Aside0 (Below w.heap.size w wc))
  case first =>
    have H := HC7.out
    clear HC7
    by_cases c10 : t163 = true
    · subst c10
      have H1 : (if t164 = true then (if t166 = 0 then (instarlaw04_CodeJoins.j0 k l0 l1 t165 t167 (t168 != 0)) else (instarlaw04_CodeJoins.j0 k l0 l1 t165 t167 true)) else (instarlaw04_CodeJoins.j0 k l0 l1 t165 t167 true)) = some r := by rw [if_pos rfl] at H; exact H
      clear H
      have H := H1
      clear H1
      by_cases c11 : t164 = true
      · subst c11
        have H1 : (if t166 = 0 then (instarlaw04_CodeJoins.j0 k l0 l1 t165 t167 (t168 != 0)) else (instarlaw04_CodeJoins.j0 k l0 l1 t165 t167 true)) = some r := by rw [if_pos rfl] at H; exact H
        clear H
        have H := H1
        clear H1
        by_cases c12 : t166 = 0
        · rw [if_pos c12] at H
          have c12b0 : (t166 == 0) = true := beq_iff_eq.mpr c12
          have c12b1 : (t166 != 0) = false := bne_eq_false_iff_eq.mpr c12
          clear c12
          (first | rw [c12b0] | (simp only [i64_w, i32_w]; rw [c12b0]) | skip)
          have H' := Aside0.mk H
          clear H
          go_wp2
          go_meet
          case rel => exact ⟨_, ((t168 != 0)), (by first | rfl | (simp; done) | (simp [*]; done)), H', ⟨by first | omega | exact Nat.le_refl _⟩, ⟨by repeat (first | (with_reducible first | exact HB.out | apply below_alloc | apply pw_below_drewN | apply below_drew1) | exact HB.out)⟩⟩
        · rw [if_neg c12] at H
          have c12b0 : (t166 == 0) = false := beq_eq_false_iff_ne.mpr c12
          have c12b1 : (t166 != 0) = true := bne_iff_ne.mpr c12
          (first | rw [c12b0] | (simp only [i64_w, i32_w]; rw [c12b0]) | skip)
          have H' := Aside0.mk H
          clear H
          go_wp2
          go_meet
          case rel => exact ⟨_, (true), (by first | rfl | (simp; done) | (simp [*]; done)), H', ⟨by first | omega | exact Nat.le_refl _⟩, ⟨by repeat (first | (with_reducible first | exact HB.out | apply below_alloc | apply pw_below_drewN | apply below_drew1) | exact HB.out)⟩⟩
      · replace c11 := Bool.eq_false_iff.mpr c11
        subst c11
        have H1 : (instarlaw04_CodeJoins.j0 k l0 l1 t165 t167 true) = some r := by rw [if_neg (show ¬ (false = true) by decide)] at H; exact H
        clear H
        have H := H1
        clear H1
        have H' := Aside0.mk H
        clear H
        go_wp2
        go_meet
        case rel => exact ⟨_, (true), (by first | rfl | (simp; done) | (simp [*]; done)), H', ⟨by first | omega | exact Nat.le_refl _⟩, ⟨by repeat (first | (with_reducible first | exact HB.out | apply below_alloc | apply pw_below_drewN | apply below_drew1) | exact HB.out)⟩⟩
    · replace c10 := Bool.eq_false_iff.mpr c10
      subst c10
      have H1 : (instarlaw04_CodeJoins.j0 k l0 l1 t165 t167 true) = some r := by rw [if_neg (show ¬ (false = true) by decide)] at H; exact H
      clear H
      have H := H1
      clear H1
      have H' := Aside0.mk H
      clear H
      go_wp2
      go_meet
      case rel => exact ⟨_, (true), (by first | rfl | (simp; done) | (simp [*]; done)), H', ⟨by first | omega | exact Nat.le_refl _⟩, ⟨by repeat (first | (with_reducible first | exact HB.out | apply below_alloc | apply pw_below_drewN | apply below_drew1) | exact HB.out)⟩⟩
  case rest =>
    clear HC7
    try clear c1
    try clear p2
    try clear c6
    try clear c7
    try clear c9
    try clear c10
    try clear c11
    try clear c12
    try clear c12b0
    try clear c12b1
    obtain ⟨kq, x45_6, rfl, HA, HJ6, HB⟩ := hcut
    cases kq with
    | zero => exact absurd HA.out (by simp [instarlaw04_CodeJoins.j0])
    | succ kj6 =>
      have H := HA.out
      clear HA
      simp only [instarlaw04_CodeJoins.j0] at H
      by_cases c13 : x45_6 = true
      · subst c13
        have H1 : ((instarlaw04_alive.f kj6).bind fun t169 => (some t169)) = some r := by rw [if_pos rfl] at H; exact H
        clear H
        have H := H1
        clear H1
        replace H := Option.bind_eq_some_iff.mp H
        obtain ⟨t169, A140, H⟩ := H
        replace H : (some t169) = some r := H
        have A14 := Aside0.mk A140
        clear A140
        obtain rfl := Option.some.inj H
        go_wp2_with (first | ((with_reducible refine gate_callee (f := 8) rfl ?_); refine goesL_ (some 46) rfl rfl Tryd.func8 (by kernel_rfl) rfl #[] rfl (by (try simp only [List.map_toArray, List.map_cons, List.map_nil]); first | done | rfl | (simp only [List.length_drop, List.length_take]; rfl)) ?_; (with_reducible refine (instarlaw04_alive.calls kj6  t169 _ A14.out).mono ?_); rintro e w15 ⟨rfl, hb⟩; refine ⟨_, rfl, ?_⟩; have n0_ := Aside0.mk (below_step (by repeat (first | (with_reducible first | exact HB.out | apply below_alloc | apply pw_below_drewN | apply below_drew1) | exact HB.out)) hb); clear HB; have HB := n0_; clear n0_; (try clear hb); (try clear hb2); (try clear hk); (try clear hi)))
        go_ret
        exact ⟨by first | rfl | (simp [errW_none, errW_some] <;> rfl) | (simp [*, errW_none, errW_some] <;> rfl), by repeat (first | (with_reducible first | exact HB.out | apply below_alloc | apply pw_below_drewN | apply below_drew1) | exact HB.out)⟩
      · replace c13 := Bool.eq_false_iff.mpr c13
        subst c13
        have H1 : ((some (([] : List (S32)) : List (S32))).bind fun y170 => (if y170.length + l0.length < 4398046511104 then ((some (y170 ++ l0 : List (S32))).bind fun y173 => (if y173.length + l1.length < 4398046511104 then ((code_Encode.f (y173 ++ l1)).bind fun bt179 => (instarlaw04_CodeJoins.l0 kj6 l0 t165 t167 bt179.1 bt179.2 bt179.1 0)) else (none))) else (none))) = some r := by rw [if_neg (show ¬ (false = true) by decide)] at H; exact H
        clear H
        have H := H1
        clear H1
        obtain ⟨y170, hy170⟩ : ∃ y_ : List (S32), y_ = (([] : List (S32))) := ⟨_, rfl⟩
        replace H : (if y170.length + l0.length < 4398046511104 then ((some (y170 ++ l0 : List (S32))).bind fun y173 => (if y173.length + l1.length < 4398046511104 then ((code_Encode.f (y173 ++ l1)).bind fun bt179 => (instarlaw04_CodeJoins.l0 kj6 l0 t165 t167 bt179.1 bt179.2 bt179.1 0)) else (none))) else (none)) = some r := by first | (rw [hy170]; with_reducible exact H) | (have H2_ := (Option.bind_some _ _).symm.trans H; rw [hy170]; with_reducible exact H2_) | (have H2_ := (Option.bind_some _ _).symm.trans H; with_reducible exact H2_) | with_reducible exact H | (rw [hy170]; exact H) | exact H
        have Ny170 := Aside0.mk hy170
        clear hy170
        by_cases c16 : y170.length + l0.length < 4398046511104
        · rw [if_pos c16] at H
          have LMc16 := Aside0.mk c16
          clear c16
          obtain ⟨y173, hy173⟩ : ∃ y_ : List (S32), y_ = (y170 ++ l0) := ⟨_, rfl⟩
          replace H : (if y173.length + l1.length < 4398046511104 then ((code_Encode.f (y173 ++ l1)).bind fun bt179 => (instarlaw04_CodeJoins.l0 kj6 l0 t165 t167 bt179.1 bt179.2 bt179.1 0)) else (none)) = some r := by first | (rw [hy173]; with_reducible exact H) | (have H2_ := (Option.bind_some _ _).symm.trans H; rw [hy173]; with_reducible exact H2_) | (have H2_ := (Option.bind_some _ _).symm.trans H; with_reducible exact H2_) | with_reducible exact H | (rw [hy173]; exact H) | exact H
          have Ny173 := Aside0.mk hy173
          clear hy173
          by_cases c17 : y173.length + l1.length < 4398046511104
          · rw [if_pos c17] at H
            have LMc17 := Aside0.mk c17
            clear c17
            obtain ⟨y176, hy176⟩ : ∃ y_ : List (S32), y_ = (y173 ++ l1) := ⟨_, rfl⟩
            replace H : ((code_Encode.f y176).bind fun bt179 => (instarlaw04_CodeJoins.l0 kj6 l0 t165 t167 bt179.1 bt179.2 bt179.1 0)) = some r := by first | (rw [hy176]; with_reducible exact H) | (have H2_ := (Option.bind_some _ _).symm.trans H; rw [hy176]; with_reducible exact H2_) | (have H2_ := (Option.bind_some _ _).symm.trans H; with_reducible exact H2_) | with_reducible exact H | (rw [hy176]; exact H) | exact H
            have Ny176 := Aside0.mk hy176
            clear hy176
            replace H := Option.bind_eq_some_iff.mp H
            obtain ⟨⟨t179, t180⟩, A180, H⟩ := H
            replace H : (instarlaw04_CodeJoins.l0 kj6 l0 t165 t167 t179 t180 t179 0) = some r := H
            have A18 := Aside0.mk A180
            clear A180
            have H' := Aside0.mk H
            clear H
            go_wp2_with (first | ((with_reducible refine gate_dst (N := 47) rfl ?_); (try (refine gate_guard (by rfl) ?_; dsimp only)); refine Kd.R_lit k32 _ 32 ?hg (N := 47) ?hd (xs := ([] : List (S32))) (inner := []) (ok := fun _ => True) (okp := fun _ => True) ?hr ?hp (fun _ hk => hk) trivial (Below.refl _ _) (Nat.le_refl _) (by simp) ?_; (case hd => rfl); (case hg => rfl); (case hr => first | (go_simp; done) | (go_simp; rfl)); (case hp => exact (Reps.none _ _)); intro v171 w19 ho20 hb hg_ hnew_; clear hg_ hnew_; (first | rw [← Ny170.out] at ho20 | (simp only [Int.reduceToNat] at ho20; rw [← Ny170.out] at ho20)); have n0_ := Aside0.mk (Kd.R_lower ho20 (below_size (by repeat (first | (with_reducible first | exact HB.out | apply below_alloc | apply pw_below_drewN | apply below_drew1) | exact HB.out)))); have n1_ := Aside0.mk (below_step (by repeat (first | (with_reducible first | exact HB.out | apply below_alloc | apply pw_below_drewN | apply below_drew1) | exact HB.out)) hb); clear HB; have HO172 := n0_; have HB := n1_; clear n0_ n1_; clear hb ho20) | ((with_reducible refine gate_builtin (b := .append) (xs := #[.tmp 47, .tmp 48]) rfl ?_); (try (refine gate_guard (by rfl) ?_; dsimp only)); at_builtin; refine Kd.R_append_rows k32 (w0 := w) w.heap.size rfl (.tmp 47) (.tmp 48) 22 32 (.agg #[(.int .i64 0), (.int .i64 0), (.string ⟨#[]⟩)]) 32 rfl Tryd.underlying22 info32 rfl (by decide) (by omega) v171 y170 l0 _ _ _ (fun _ => True) (fun _ => False) rfl rfl ?aO ?aR (fun _ _ h => h) (fun _ h => h.elim) ?aF ?aB ?aS ?aL ?_; (case aR => repeat (first | exact (Kd.C_below HR0.out HB.out) | (with_reducible refine Kd.C_alloc ?_ _) | (with_reducible refine Kd.C_drewN ?_ _) | (with_reducible refine Kd.C_drew ?_))); (case aB => exact (by repeat (first | (with_reducible first | exact HB.out | apply below_alloc | apply pw_below_drewN | apply below_drew1) | exact HB.out))); (case aF => exact (fun _ _ => trivial)); (case aO => exact (by (with_reducible repeat (first | apply Kd.R_alloc | apply Kd.R_drewN | apply Kd.R_drew)); exact HO172.out)); (case aS => exact (below_size (by repeat (first | (with_reducible first | exact HB.out | apply below_alloc | apply pw_below_drewN | apply below_drew1) | exact HB.out)))); (case aL => have := LMc16.out; omega); intro v174 w21 ho hb hg hat; rw [← Ny173.out] at ho; have n0_ := Aside0.mk (hb); have n1_ := Aside0.mk (ho); clear HB; clear HO172; have HB := n0_; have HO175 := n1_; clear n0_ n1_; clear ho hb hg hat) | ((with_reducible refine gate_builtin (b := .append) (xs := #[.tmp 50, .tmp 51]) rfl ?_); (try (refine gate_guard (by rfl) ?_; dsimp only)); at_builtin; refine Kd.R_append_rows k32 (w0 := w) w.heap.size rfl (.tmp 50) (.tmp 51) 22 32 (.agg #[(.int .i64 0), (.int .i64 0), (.string ⟨#[]⟩)]) 32 rfl Tryd.underlying22 info32 rfl (by decide) (by omega) v174 y173 l1 _ _ _ (fun _ => True) (fun _ => False) rfl rfl ?aO ?aR (fun _ _ h => h) (fun _ h => h.elim) ?aF ?aB ?aS ?aL ?_; (case aR => repeat (first | exact (Kd.C_below HR1.out HB.out) | (with_reducible refine Kd.C_alloc ?_ _) | (with_reducible refine Kd.C_drewN ?_ _) | (with_reducible refine Kd.C_drew ?_))); (case aB => exact (by repeat (first | (with_reducible first | exact HB.out | apply below_alloc | apply pw_below_drewN | apply below_drew1) | exact HB.out))); (case aF => exact (fun _ _ => trivial)); (case aO => exact (by (with_reducible repeat (first | apply Kd.R_alloc | apply Kd.R_drewN | apply Kd.R_drew)); exact HO175.out)); (case aS => exact (below_size (by repeat (first | (with_reducible first | exact HB.out | apply below_alloc | apply pw_below_drewN | apply below_drew1) | exact HB.out)))); (case aL => have := LMc17.out; omega); intro v177 w22 ho hb hg hat; rw [← Ny176.out] at ho; have n0_ := Aside0.mk (hb); have n1_ := Aside0.mk (ho); clear HB; clear HO175; have HB := n0_; have HO178 := n1_; clear n0_ n1_; clear ho hb hg hat; obtain ⟨Ao23, co23, eo23⟩ := Kd.R_slice HO178.out; subst eo23) | ((with_reducible refine gate_callee (f := 9) rfl ?_); refine goesL_ (some 55) rfl rfl Tryd.func9 (by kernel_rfl) rfl #[.slice Ao23 y176.length co23] rfl (by (try simp only [List.map_toArray, List.map_cons, List.map_nil]); first | done | rfl | (simp only [List.length_drop, List.length_take]; rfl)) ?_; (with_reducible refine (code_Encode.calls _ _ y176 t179 t180 _ ?side1 ?side2 A18.out).mono ?_); (case side1 => repeat (first | exact (Kd.R_reads' HO178.out).2.2 | (with_reducible refine Kd.C_alloc ?_ _) | (with_reducible refine Kd.C_drewN ?_ _) | (with_reducible refine Kd.C_drew ?_))); (case side2 => exact (Kd.R_reads' HO178.out).2.1); rintro e w24 ⟨rfl, hb⟩; refine ⟨_, rfl, ?_⟩; have n0_ := Aside0.mk (Kd.R_below (by (with_reducible repeat (first | apply Kd.R_alloc | apply Kd.R_drewN | apply Kd.R_drew)); exact HO178.out) hb); have n1_ := Aside0.mk (below_step (by repeat (first | (with_reducible first | exact HB.out | apply below_alloc | apply pw_below_drewN | apply below_drew1) | exact HB.out)) hb); clear HO178; clear HB; have HO178 := n0_; have HB := n1_; clear n0_ n1_; (try clear hb); (try clear hb2); (try clear hk); (try clear hi)))
            go_loopg [14, 15] kj6 (fun kq v14 v15 w' => ∃ (x14_2 : ByteArray) (x15_2 : Int), v14 = .string x14_2 ∧ v15 = .int .i64 x15_2 ∧ Aside0 (instarlaw04_CodeJoins.l0 kq l0 t165 t167 t179 t180 x14_2 x15_2 = some r) ∧ Aside0 (kq ≤ kj6) ∧ Aside0 (Below w.heap.size w w'))
            case atStart => exact ⟨(t179), (0), (by first | rfl | (simp; done) | (simp [*]; done)), (by first | rfl | (simp; done) | (simp [*]; done)), H', ⟨Nat.le_refl _⟩, ⟨by repeat (first | (with_reducible first | exact HB.out | apply below_alloc | apply pw_below_drewN | apply below_drew1) | exact HB.out)⟩⟩
            case round =>
              clear H'
              try clear c1
              try clear p2
              try clear c6
              try clear c7
              try clear c8
              try clear c9
              try clear c10
              try clear c11
              try clear c12
              try clear c12b0
              try clear c12b1
              try clear c13
              try clear c16
              try clear c17
              try clear p2
              obtain ⟨x14_2, x15_2, rfl, rfl, HA, HK2, HB⟩ := hrel
              cases gk with
              | zero => exact absurd HA.out (by simp [instarlaw04_CodeJoins.l0])
              | succ k2 =>
                have H := HA.out
                clear HA
                simp only [instarlaw04_CodeJoins.l0] at H
                by_cases c25 : x15_2 < (l0.length : Int)
                · rw [if_pos c25] at H
                  have c25b0 : decide (x15_2 < (l0.length : Int)) = true := decide_eq_true c25
                  clear c25
                  replace H := Option.bind_eq_some_iff.mp H
                  obtain ⟨⟨t181, t182⟩, A260, H⟩ := H
                  replace H : (if t182 = 0 then (if t181 < 1 then (some false) else (if t181 > (x14_2.size : Int) then (some false) else (if 0 ≤ t181 then (if t181 ≤ (x14_2.size : Int) then (instarlaw04_CodeJoins.l0 k2 l0 t165 t167 t179 t180 (x14_2.extract (t181 : Int).toNat x14_2.size) (wrap64 (x15_2 + 1))) else (none)) else (none)))) else (some false)) = some r := H
                  have A26 := Aside0.mk A260
                  clear A260
                  by_cases c27 : t182 = 0
                  · rw [if_pos c27] at H
                    have c27b0 : (t182 == 0) = true := beq_iff_eq.mpr c27
                    have c27b1 : (t182 != 0) = false := bne_eq_false_iff_eq.mpr c27
                    clear c27
                    by_cases c28 : t181 < 1
                    · rw [if_pos c28] at H
                      have c28b0 : decide (t181 < 1) = true := decide_eq_true c28
                      clear c28
                      obtain rfl := Option.some.inj H
                      go_wp2_with (first | ((with_reducible refine gate_callee (f := 15) rfl ?_); refine goesL_ (some 67) rfl rfl Tryd.func15 (by kernel_rfl) rfl #[.string x14_2] rfl (by (try simp only [List.map_toArray, List.map_cons, List.map_nil]); first | done | rfl | (simp only [List.length_drop, List.length_take]; rfl)) ?_; (with_reducible refine (code_Skip.calls x14_2 t181 t182 _ A26.out).mono ?_); rintro e w29 ⟨rfl, hb⟩; refine ⟨_, rfl, ?_⟩; have n0_ := Aside0.mk (below_step (by repeat (first | (with_reducible first | exact HB.out | apply below_alloc | apply pw_below_drewN | apply below_drew1) | exact HB.out)) hb); clear HB; have HB := n0_; clear n0_; (try clear hb); (try clear hb2); (try clear hk); (try clear hi)))
                      go_ret
                      exact ⟨by first | rfl | (simp [errW_none, errW_some] <;> rfl) | (simp [*, errW_none, errW_some] <;> rfl), by repeat (first | (with_reducible first | exact HB.out | apply below_alloc | apply pw_below_drewN | apply below_drew1) | exact HB.out)⟩
                    · rw [if_neg c28] at H
                      have c28b0 : decide (t181 < 1) = false := decide_eq_false c28
                      clear c28
                      by_cases c30 : t181 > (x14_2.size : Int)
                      · rw [if_pos c30] at H
                        have c30b0 : decide ((x14_2.size : Int) < t181) = true := decide_eq_true c30
                        clear c30
                        obtain rfl := Option.some.inj H
                        go_wp2_with (first | ((with_reducible refine gate_callee (f := 15) rfl ?_); refine goesL_ (some 67) rfl rfl Tryd.func15 (by kernel_rfl) rfl #[.string x14_2] rfl (by (try simp only [List.map_toArray, List.map_cons, List.map_nil]); first | done | rfl | (simp only [List.length_drop, List.length_take]; rfl)) ?_; (with_reducible refine (code_Skip.calls x14_2 t181 t182 _ A26.out).mono ?_); rintro e w31 ⟨rfl, hb⟩; refine ⟨_, rfl, ?_⟩; have n0_ := Aside0.mk (below_step (by repeat (first | (with_reducible first | exact HB.out | apply below_alloc | apply pw_below_drewN | apply below_drew1) | exact HB.out)) hb); clear HB; have HB := n0_; clear n0_; (try clear hb); (try clear hb2); (try clear hk); (try clear hi)))
                        go_ret
                        exact ⟨by first | rfl | (simp [errW_none, errW_some] <;> rfl) | (simp [*, errW_none, errW_some] <;> rfl), by repeat (first | (with_reducible first | exact HB.out | apply below_alloc | apply pw_below_drewN | apply below_drew1) | exact HB.out)⟩
                      · rw [if_neg c30] at H
                        have c30b0 : decide ((x14_2.size : Int) < t181) = false := decide_eq_false c30
                        clear c30
                        by_cases c32 : 0 ≤ t181
                        · rw [if_pos c32] at H
                          have c32b0 := eq_true c32
                          have c32b1 : decide (0 ≤ t181) = true := decide_eq_true c32
                          clear c32
                          by_cases c33 : t181 ≤ (x14_2.size : Int)
                          · rw [if_pos c33] at H
                            have c33b0 := eq_true c33
                            have c33b1 : decide (t181 ≤ (x14_2.size : Int)) = true := decide_eq_true c33
                            clear c33
                            have H' := Aside0.mk H
                            clear H
                            go_wp2_with (first | ((with_reducible refine gate_callee (f := 15) rfl ?_); refine goesL_ (some 67) rfl rfl Tryd.func15 (by kernel_rfl) rfl #[.string x14_2] rfl (by (try simp only [List.map_toArray, List.map_cons, List.map_nil]); first | done | rfl | (simp only [List.length_drop, List.length_take]; rfl)) ?_; (with_reducible refine (code_Skip.calls x14_2 t181 t182 _ A26.out).mono ?_); rintro e w34 ⟨rfl, hb⟩; refine ⟨_, rfl, ?_⟩; have n0_ := Aside0.mk (below_step (by repeat (first | (with_reducible first | exact HB.out | apply below_alloc | apply pw_below_drewN | apply below_drew1) | exact HB.out)) hb); clear HB; have HB := n0_; clear n0_; (try clear hb); (try clear hb2); (try clear hk); (try clear hi)))
                            go_roundg k2
                            case measure => have := HJ6.out; have := HK2.out; omega
                            case rel => exact ⟨(x14_2.extract (t181 : Int).toNat x14_2.size), (wrap64 (x15_2 + 1)), (by first | rfl | (simp; done) | (simp [*]; done)), (by first | rfl | (simp; done) | (simp [*]; done)), H', ⟨by have := HJ6.out; have := HK2.out; omega⟩, ⟨by repeat (first | (with_reducible first | exact HB.out | apply below_alloc | apply pw_below_drewN | apply below_drew1) | exact HB.out)⟩⟩
                          · rw [if_neg c33] at H
                            exact absurd H (by simp)
                        · rw [if_neg c32] at H
                          exact absurd H (by simp)
                  · rw [if_neg c27] at H
                    have c27b0 : (t182 == 0) = false := beq_eq_false_iff_ne.mpr c27
                    have c27b1 : (t182 != 0) = true := bne_iff_ne.mpr c27
                    obtain rfl := Option.some.inj H
                    go_wp2_with (first | ((with_reducible refine gate_callee (f := 15) rfl ?_); refine goesL_ (some 67) rfl rfl Tryd.func15 (by kernel_rfl) rfl #[.string x14_2] rfl (by (try simp only [List.map_toArray, List.map_cons, List.map_nil]); first | done | rfl | (simp only [List.length_drop, List.length_take]; rfl)) ?_; (with_reducible refine (code_Skip.calls x14_2 t181 t182 _ A26.out).mono ?_); rintro e w35 ⟨rfl, hb⟩; refine ⟨_, rfl, ?_⟩; have n0_ := Aside0.mk (below_step (by repeat (first | (with_reducible first | exact HB.out | apply below_alloc | apply pw_below_drewN | apply below_drew1) | exact HB.out)) hb); clear HB; have HB := n0_; clear n0_; (try clear hb); (try clear hb2); (try clear hk); (try clear hi)))
                    go_ret
                    exact ⟨by first | rfl | (simp [errW_none, errW_some] <;> rfl) | (simp [*, errW_none, errW_some] <;> rfl), by repeat (first | (with_reducible first | exact HB.out | apply below_alloc | apply pw_below_drewN | apply below_drew1) | exact HB.out)⟩
                · rw [if_neg c25] at H
                  have c25b0 : decide (x15_2 < (l0.length : Int)) = false := decide_eq_false c25
                  clear c25
                  replace H := Option.bind_eq_some_iff.mp H
                  obtain ⟨t183, A360, H⟩ := H
                  replace H : (if t183 = true then (if t180 = 0 then (if t165.size + t167.size ≤ 9223372036854775807 then (if t179.toList = (t165 ++ t167).toList then (some (x14_2.toList == t167.toList)) else (some false)) else (none)) else (some false)) else (some false)) = some r := H
                  have A36 := Aside0.mk A360
                  clear A360
                  by_cases c37 : t183 = true
                  · subst c37
                    have H1 : (if t180 = 0 then (if t165.size + t167.size ≤ 9223372036854775807 then (if t179.toList = (t165 ++ t167).toList then (some (x14_2.toList == t167.toList)) else (some false)) else (none)) else (some false)) = some r := by rw [if_pos rfl] at H; exact H
                    clear H
                    have H := H1
                    clear H1
                    by_cases c38 : t180 = 0
                    · rw [if_pos c38] at H
                      have c38b0 : (t180 == 0) = true := beq_iff_eq.mpr c38
                      have c38b1 : (t180 != 0) = false := bne_eq_false_iff_eq.mpr c38
                      clear c38
                      by_cases c39 : t165.size + t167.size ≤ 9223372036854775807
                      · rw [if_pos c39] at H
                        have c39b0 := eq_true c39
                        have c39b1 : decide (t165.size + t167.size ≤ 9223372036854775807) = true := decide_eq_true c39
                        try have c39b2 : (9223372036854775807 < t165.size + t167.size) = False := eq_false (Nat.not_lt.2 c39)
                        by_cases c40 : t179.toList = (t165 ++ t167).toList
                        · rw [if_pos c40] at H
                          have c40b0 : (t179.toList == (t165 ++ t167).toList) = true := beq_iff_eq.mpr c40
                          have c40b1 : (t179.toList != (t165 ++ t167).toList) = false := bne_eq_false_iff_eq.mpr c40
                          clear c40
                          obtain rfl := Option.some.inj H
                          go_wp2_with (first | ((with_reducible refine gate_callee (f := 8) rfl ?_); refine goesL_ (some 85) rfl rfl Tryd.func8 (by kernel_rfl) rfl #[] rfl (by (try simp only [List.map_toArray, List.map_cons, List.map_nil]); first | done | rfl | (simp only [List.length_drop, List.length_take]; rfl)) ?_; (with_reducible refine (instarlaw04_alive.calls k2  true _ A36.out).mono ?_); rintro e w41 ⟨rfl, hb⟩; refine ⟨_, rfl, ?_⟩; have n0_ := Aside0.mk (below_step (by repeat (first | (with_reducible first | exact HB.out | apply below_alloc | apply pw_below_drewN | apply below_drew1) | exact HB.out)) hb); clear HB; have HB := n0_; clear n0_; (try clear hb); (try clear hb2); (try clear hk); (try clear hi)))
                          go_ret
                          exact ⟨by first | rfl | (simp [errW_none, errW_some] <;> rfl) | (simp [*, errW_none, errW_some] <;> rfl), by repeat (first | (with_reducible first | exact HB.out | apply below_alloc | apply pw_below_drewN | apply below_drew1) | exact HB.out)⟩
                        · rw [if_neg c40] at H
                          have c40b0 : (t179.toList == (t165 ++ t167).toList) = false := beq_eq_false_iff_ne.mpr c40
                          have c40b1 : (t179.toList != (t165 ++ t167).toList) = true := bne_iff_ne.mpr c40
                          obtain rfl := Option.some.inj H
                          go_wp2_with (first | ((with_reducible refine gate_callee (f := 8) rfl ?_); refine goesL_ (some 85) rfl rfl Tryd.func8 (by kernel_rfl) rfl #[] rfl (by (try simp only [List.map_toArray, List.map_cons, List.map_nil]); first | done | rfl | (simp only [List.length_drop, List.length_take]; rfl)) ?_; (with_reducible refine (instarlaw04_alive.calls k2  true _ A36.out).mono ?_); rintro e w42 ⟨rfl, hb⟩; refine ⟨_, rfl, ?_⟩; have n0_ := Aside0.mk (below_step (by repeat (first | (with_reducible first | exact HB.out | apply below_alloc | apply pw_below_drewN | apply below_drew1) | exact HB.out)) hb); clear HB; have HB := n0_; clear n0_; (try clear hb); (try clear hb2); (try clear hk); (try clear hi)))
                          go_ret
                          exact ⟨by first | rfl | (simp [errW_none, errW_some] <;> rfl) | (simp [*, errW_none, errW_some] <;> rfl), by repeat (first | (with_reducible first | exact HB.out | apply below_alloc | apply pw_below_drewN | apply below_drew1) | exact HB.out)⟩
                      · rw [if_neg c39] at H
                        exact absurd H (by simp)
                    · rw [if_neg c38] at H
                      have c38b0 : (t180 == 0) = false := beq_eq_false_iff_ne.mpr c38
                      have c38b1 : (t180 != 0) = true := bne_iff_ne.mpr c38
                      obtain rfl := Option.some.inj H
                      go_wp2_with (first | ((with_reducible refine gate_callee (f := 8) rfl ?_); refine goesL_ (some 85) rfl rfl Tryd.func8 (by kernel_rfl) rfl #[] rfl (by (try simp only [List.map_toArray, List.map_cons, List.map_nil]); first | done | rfl | (simp only [List.length_drop, List.length_take]; rfl)) ?_; (with_reducible refine (instarlaw04_alive.calls k2  true _ A36.out).mono ?_); rintro e w43 ⟨rfl, hb⟩; refine ⟨_, rfl, ?_⟩; have n0_ := Aside0.mk (below_step (by repeat (first | (with_reducible first | exact HB.out | apply below_alloc | apply pw_below_drewN | apply below_drew1) | exact HB.out)) hb); clear HB; have HB := n0_; clear n0_; (try clear hb); (try clear hb2); (try clear hk); (try clear hi)))
                      go_ret
                      exact ⟨by first | rfl | (simp [errW_none, errW_some] <;> rfl) | (simp [*, errW_none, errW_some] <;> rfl), by repeat (first | (with_reducible first | exact HB.out | apply below_alloc | apply pw_below_drewN | apply below_drew1) | exact HB.out)⟩
                  · replace c37 := Bool.eq_false_iff.mpr c37
                    subst c37
                    have H1 : (some false) = some r := by rw [if_neg (show ¬ (false = true) by decide)] at H; exact H
                    clear H
                    have H := H1
                    clear H1
                    obtain rfl := Option.some.inj H
                    go_wp2_with (first | ((with_reducible refine gate_callee (f := 8) rfl ?_); refine goesL_ (some 85) rfl rfl Tryd.func8 (by kernel_rfl) rfl #[] rfl (by (try simp only [List.map_toArray, List.map_cons, List.map_nil]); first | done | rfl | (simp only [List.length_drop, List.length_take]; rfl)) ?_; (with_reducible refine (instarlaw04_alive.calls k2  false _ A36.out).mono ?_); rintro e w44 ⟨rfl, hb⟩; refine ⟨_, rfl, ?_⟩; have n0_ := Aside0.mk (below_step (by repeat (first | (with_reducible first | exact HB.out | apply below_alloc | apply pw_below_drewN | apply below_drew1) | exact HB.out)) hb); clear HB; have HB := n0_; clear n0_; (try clear hb); (try clear hb2); (try clear hk); (try clear hi)))
                    go_ret
                    exact ⟨by first | rfl | (simp [errW_none, errW_some] <;> rfl) | (simp [*, errW_none, errW_some] <;> rfl), by repeat (first | (with_reducible first | exact HB.out | apply below_alloc | apply pw_below_drewN | apply below_drew1) | exact HB.out)⟩
          · rw [if_neg c17] at H
            exact absurd H (by simp)
        · rw [if_neg c16] at H
          exact absurd H (by simp)

end Go.Proofs.YtknkaaleafiifaaDoor.Hp
