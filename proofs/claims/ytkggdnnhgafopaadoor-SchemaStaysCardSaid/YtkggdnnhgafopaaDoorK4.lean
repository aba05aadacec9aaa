/- What each function comes to, a contract of its call each (and the row of a law out of its plain statement); no condition beyond what stands in each. -/
import Derived.Test.YtkggdnnhgafopaaDoorK0
import Derived.Test.YtkggdnnhgafopaaDoorK2
import Derived.Test.YtkggdnnhgafopaaDoorK3
namespace Go.Proofs.YtkggdnnhgafopaaDoor.Kp
open Go.RowKit Go.Proofs.YtkggdnnhgafopaaDoorW.PrintWords Go.Proofs.YtkggdnnhgafopaaDoorW.PrintLast Go.Proofs.YtkggdnnhgafopaaDoorW.PrintMore
attribute [local go_sem] max2_int min2_int max_two min_two max_three min_three max_four min_four   -- for this text's walks alone
set_option linter.unusedVariables false
set_option linter.unusedSimpArgs false

/-! ### instarref08_Words: function 50 -/
mutual
def instarref08_Words.l0 : Nat → ByteArray → List (S76) → Int → Option ((List (S76)) × Int × Int)
  | 0, _, _, _ => none
  | k + 1, x0, x5, x6 => if x6 < (x0.size : Int) then (if 0 ≤ x6 then (if (bt x0 x6) = 32 then (instarref08_Words.j1 k x0 x5 x6 true) else (if (bt x0 x6) = 9 then (instarref08_Words.j1 k x0 x5 x6 true) else (instarref08_Words.j1 k x0 x5 x6 ((bt x0 x6) == 10)))) else (none)) else (some (x5, 0, 0))
def instarref08_Words.j1 : Nat → ByteArray → List (S76) → Int → Bool → Option ((List (S76)) × Int × Int)
  | 0, _, _, _, _ => none
  | k + 1, x0, x5, x6, x28 => if x28 = true then (instarref08_Words.l0 k x0 x5 (wrap64 (x6 + 1))) else (if 0 ≤ x6 then (if x6 ≤ (x0.size : Int) then ((instarref08_one.f k (x0.extract (x6 : Int).toNat x0.size)).bind fun bt110 => (if bt110.2.2.2 = 0 then (some (([] : List (S76)), x6, 81)) else (if x5.length < 4398046511104 then (instarref08_Words.l0 k x0 (x5 ++ [(⟨bt110.1, bt110.2.1, x6⟩ : S76)]) (wrap64 (x6 + bt110.2.2.2))) else (none)))) else (none)) else (none))
end
def instarref08_Words.f (k : Nat) (a0 : ByteArray) : Option ((List (S76)) × Int × Int) := instarref08_Words.l0 k a0 ([] : List (S76)) 0
theorem instarref08_Words.mono_l : ∀ k, (∀ y0 y1 y2, LeO (instarref08_Words.l0 k y0 y1 y2) (instarref08_Words.l0 (k + 1) y0 y1 y2)) ∧ (∀ y0 y1 y2 y3, LeO (instarref08_Words.j1 k y0 y1 y2 y3) (instarref08_Words.j1 (k + 1) y0 y1 y2 y3))
  | 0 => ⟨fun _ _ _ r h => by simp [instarref08_Words.l0] at h, fun _ _ _ _ r h => by simp [instarref08_Words.j1] at h⟩
  | k + 1 => by
    obtain ⟨ih0, ih1⟩ := instarref08_Words.mono_l k
    refine ⟨?_, ?_⟩
    · intro y0 y1 y2
      unfold instarref08_Words.l0
      repeat' first
      | (with_reducible exact ih0 _ _ _)
      | (with_reducible exact ih1 _ _ _ _)
      | (with_reducible exact instarref08_one.mono _ _)
      | (with_reducible exact LeO.refl _)
      | (with_reducible exact LeO.none _)
      | (with_reducible refine LeO.ite ?_ ?_)
      | (with_reducible refine LeO.bind ?_ (fun _ => ?_))
      | exact ih0 _ _ _
      | exact ih1 _ _ _ _
      | exact instarref08_one.mono _ _
      | exact LeO.none _
      | refine LeO.ite ?_ ?_
      | refine LeO.bind ?_ (fun _ => ?_)
    · intro y0 y1 y2 y3
      unfold instarref08_Words.j1
      repeat' first
      | (with_reducible exact ih0 _ _ _)
      | (with_reducible exact ih1 _ _ _ _)
      | (with_reducible exact instarref08_one.mono _ _)
      | (with_reducible exact LeO.refl _)
      | (with_reducible exact LeO.none _)
      | (with_reducible refine LeO.ite ?_ ?_)
      | (with_reducible refine LeO.bind ?_ (fun _ => ?_))
      | exact ih0 _ _ _
      | exact ih1 _ _ _ _
      | exact instarref08_one.mono _ _
      | exact LeO.none _
      | refine LeO.ite ?_ ?_
      | refine LeO.bind ?_ (fun _ => ?_)
theorem instarref08_Words.mono : ∀ a0 k, LeO (instarref08_Words.f k a0) (instarref08_Words.f (k + 1) a0) := by
  intro a0 k
  obtain ⟨ih0, ih1⟩ := instarref08_Words.mono_l k
  unfold instarref08_Words.f
  repeat' first
      | (with_reducible exact ih0 _ _ _)
      | (with_reducible exact ih1 _ _ _ _)
      | (with_reducible exact instarref08_one.mono _ _)
      | (with_reducible exact LeO.refl _)
      | (with_reducible exact LeO.none _)
      | (with_reducible refine LeO.ite ?_ ?_)
      | (with_reducible refine LeO.bind ?_ (fun _ => ?_))
      | exact ih0 _ _ _
      | exact ih1 _ _ _ _
      | exact instarref08_one.mono _ _
      | exact LeO.none _
      | refine LeO.ite ?_ ?_
      | refine LeO.bind ?_ (fun _ => ?_)
set_option maxHeartbeats 8000000 in
set_option maxRecDepth 100000 in
theorem instarref08_Words.calls (k : Nat) (a0 : ByteArray) (r1 : List (S76)) (r2 : Int) (r3 : Int) (w : World) (h : instarref08_Words.f k a0 = some (r1, r2, r3)) :
    Calls Tryd.prog 50 #[.string a0] w fun e w' => ∃ v0_ : Value, e = .returned (.tuple #[v0_, .int .i64 r2, .int .i64 r3]) ∧ Kd.R k76 76 w' w.heap.size (fun _ => True) v0_ r1 ∧ Below w.heap.size w w' := by
  have hu76 := Tryd.underlying76
  have HB := Aside0.mk (Below.refl w.heap.size w)
  have H : (instarref08_Words.l0 k a0 ([] : List (S76)) 0) = some (r1, r2, r3) := h
  clear h
  have H' := Aside0.mk H
  clear H
  go_enter Tryd.func50, Tryd.ntmps50
  go_wp2
  go_loopg [5, 6] k (fun kq v5 v6 w' => ∃ (x5_1 : List (S76)) (x6_1 : Int), v6 = .int .i64 x6_1 ∧ Aside0 (instarref08_Words.l0 kq a0 x5_1 x6_1 = some (r1, r2, r3)) ∧ Aside0 (kq ≤ k) ∧ Aside0 (Kd.R k76 76 w' w.heap.size (fun _ => True) v5 x5_1) ∧ Aside0 (Below w.heap.size w w'))
  case atStart => exact ⟨(([] : List (S76))), (0), (by first | rfl | (simp; done) | (simp [*]; done)), H', ⟨Nat.le_refl _⟩, ⟨by first | exact Kd.R_nil _ _ _ _ _ | exact Kd.N_nil _ _ _ _ _ | exact Kd.V_nil _ _ _ _ _ | exact Kd.Q_nil _ _ _ _ _ | exact Kd.S_nil _ _ _ _ _⟩, ⟨by repeat (first | (with_reducible first | exact HB.out | apply below_alloc | apply pw_below_drewN | apply below_drew1) | exact HB.out)⟩⟩
  case round =>
    clear H'
    obtain ⟨x5_1, x6_1, rfl, HA, HK1, HO_5, HB⟩ := hrel
    cases gk with
    | zero => exact absurd HA.out (by simp [instarref08_Words.l0])
    | succ k1 =>
      have H := HA.out
      clear HA
      simp only [instarref08_Words.l0] at H
      by_cases c2 : x6_1 < (a0.size : Int)
      · rw [if_pos c2] at H
        have c2b0 : decide (x6_1 < (a0.size : Int)) = true := decide_eq_true c2
        clear c2
        have HC3 := Aside0.mk H
        clear H
        go_upto_region 4 with (fail)
        go_cut [28] (fun v28 wc => ∃ (kq : Nat) (x28_2 : Bool), v28 = .bool x28_2 ∧ Aside0 (instarref08_Words.j1 kq a0 x5_1 x6_1 x28_2 = some (r1, r2, r3)) ∧ Aside0 (kq ≤ k1) ∧ Aside0 (Kd.R k76 76 wc w.heap.size (fun _ => True) u5 x5_1) ∧ Aside0 (Below w.heap.size w wc))
        case first =>
          have H := HC3.out
          clear HC3
          by_cases c4 : 0 ≤ x6_1
          · rw [if_pos c4] at H
            have c4b0 : decide (0 ≤ x6_1) = true := decide_eq_true c4
            clear c4
            (first | rw [c4b0] | (simp only [i64_w, i32_w]; rw [c4b0]) | skip)
            by_cases c6 : (bt a0 x6_1) = 32
            · rw [if_pos c6] at H
              have c6b0 : ((bt a0 x6_1) == 32) = true := beq_iff_eq.mpr c6
              have c6b1 : ((bt a0 x6_1) != 32) = false := bne_eq_false_iff_eq.mpr c6
              clear c6
              have H' := Aside0.mk H
              clear H
              have p5 : 0 ≤ (x6_1 : Int) := of_decide_eq_true (by first | (with_reducible assumption) | assumption)
              have q5 : x6_1 < (a0.size : Int) := of_decide_eq_true (by first | (with_reducible assumption) | assumption)
              have hx5 := bt_at a0 x6_1
              replace p5 := eq_true p5
              replace q5 := eq_true q5
              go_wp2
              go_meet
              case rel => exact ⟨_, (true), (by first | rfl | (simp; done) | (simp [*]; done)), H', ⟨by have := HK1.out; first | omega | exact Nat.le_refl _⟩, ⟨by (with_reducible repeat (first | apply Kd.R_alloc | apply Kd.R_drewN | apply Kd.R_drew)); exact HO_5.out⟩, ⟨by repeat (first | (with_reducible first | exact HB.out | apply below_alloc | apply pw_below_drewN | apply below_drew1) | exact HB.out)⟩⟩
            · rw [if_neg c6] at H
              have c6b0 : ((bt a0 x6_1) == 32) = false := beq_eq_false_iff_ne.mpr c6
              have c6b1 : ((bt a0 x6_1) != 32) = true := bne_iff_ne.mpr c6
              by_cases c8 : (bt a0 x6_1) = 9
              · rw [if_pos c8] at H
                have c8b0 : ((bt a0 x6_1) == 9) = true := beq_iff_eq.mpr c8
                have c8b1 : ((bt a0 x6_1) != 9) = false := bne_eq_false_iff_eq.mpr c8
                clear c8
                have H' := Aside0.mk H
                clear H
                have p5 : 0 ≤ (x6_1 : Int) := of_decide_eq_true (by first | (with_reducible assumption) | assumption)
                have q5 : x6_1 < (a0.size : Int) := of_decide_eq_true (by first | (with_reducible assumption) | assumption)
                have hx5 := bt_at a0 x6_1
                replace p5 := eq_true p5
                replace q5 := eq_true q5
                have p7 : 0 ≤ (x6_1 : Int) := of_decide_eq_true (by first | (with_reducible assumption) | assumption)
                have q7 : x6_1 < (a0.size : Int) := of_decide_eq_true (by first | (with_reducible assumption) | assumption)
                have hx7 := bt_at a0 x6_1
                replace p7 := eq_true p7
                replace q7 := eq_true q7
                go_wp2
                go_meet
                case rel => exact ⟨_, (true), (by first | rfl | (simp; done) | (simp [*]; done)), H', ⟨by have := HK1.out; first | omega | exact Nat.le_refl _⟩, ⟨by (with_reducible repeat (first | apply Kd.R_alloc | apply Kd.R_drewN | apply Kd.R_drew)); exact HO_5.out⟩, ⟨by repeat (first | (with_reducible first | exact HB.out | apply below_alloc | apply pw_below_drewN | apply below_drew1) | exact HB.out)⟩⟩
              · rw [if_neg c8] at H
                have c8b0 : ((bt a0 x6_1) == 9) = false := beq_eq_false_iff_ne.mpr c8
                have c8b1 : ((bt a0 x6_1) != 9) = true := bne_iff_ne.mpr c8
                have H' := Aside0.mk H
                clear H
                have p5 : 0 ≤ (x6_1 : Int) := of_decide_eq_true (by first | (with_reducible assumption) | assumption)
                have q5 : x6_1 < (a0.size : Int) := of_decide_eq_true (by first | (with_reducible assumption) | assumption)
                have hx5 := bt_at a0 x6_1
                replace p5 := eq_true p5
                replace q5 := eq_true q5
                have p7 : 0 ≤ (x6_1 : Int) := of_decide_eq_true (by first | (with_reducible assumption) | assumption)
                have q7 : x6_1 < (a0.size : Int) := of_decide_eq_true (by first | (with_reducible assumption) | assumption)
                have hx7 := bt_at a0 x6_1
                replace p7 := eq_true p7
                replace q7 := eq_true q7
                have p9 : 0 ≤ (x6_1 : Int) := of_decide_eq_true (by first | (with_reducible assumption) | assumption)
                have q9 : x6_1 < (a0.size : Int) := of_decide_eq_true (by first | (with_reducible assumption) | assumption)
                have hx9 := bt_at a0 x6_1
                replace p9 := eq_true p9
                replace q9 := eq_true q9
                go_wp2
                go_meet
                case rel => exact ⟨_, (((bt a0 x6_1) == 10)), (by first | rfl | (simp; done) | (simp [*]; done)), H', ⟨by have := HK1.out; first | omega | exact Nat.le_refl _⟩, ⟨by (with_reducible repeat (first | apply Kd.R_alloc | apply Kd.R_drewN | apply Kd.R_drew)); exact HO_5.out⟩, ⟨by repeat (first | (with_reducible first | exact HB.out | apply below_alloc | apply pw_below_drewN | apply below_drew1) | exact HB.out)⟩⟩
          · rw [if_neg c4] at H
            exact absurd H (by simp)
        case rest =>
          clear HC3
          try clear c2
          try clear c2b0
          try clear p2
          try clear c4
          try clear c4b0
          try clear c5
          try clear p5
          try clear q5
          try clear hx5
          try clear c6
          try clear c6b0
          try clear c6b1
          try clear p7
          try clear q7
          try clear hx7
          try clear c8
          try clear c8b0
          try clear c8b1
          try clear p9
          try clear q9
          try clear hx9
          try clear p5
          try clear p7
          try clear p9
          try clear q5
          try clear q7
          try clear q9
          obtain ⟨kq, x28_2, rfl, HA, HJ2, HO_5, HB⟩ := hcut
          cases kq with
          | zero => exact absurd HA.out (by simp [instarref08_Words.j1])
          | succ kj2 =>
            have H := HA.out
            clear HA
            simp only [instarref08_Words.j1] at H
            by_cases c10 : x28_2 = true
            · subst c10
              have H1 : (instarref08_Words.l0 kj2 a0 x5_1 (wrap64 (x6_1 + 1))) = some (r1, r2, r3) := by rw [if_pos rfl] at H; exact H
              clear H
              have H := H1
              clear H1
              have H' := Aside0.mk H
              clear H
              go_wp2
              go_roundg kj2
              case measure => have := HK1.out; have := HJ2.out; omega
              case rel => exact ⟨(x5_1), (wrap64 (x6_1 + 1)), (by first | rfl | (simp; done) | (simp [*]; done)), H', ⟨by have := HK1.out; have := HJ2.out; omega⟩, ⟨by (with_reducible repeat (first | apply Kd.R_alloc | apply Kd.R_drewN | apply Kd.R_drew)); exact HO_5.out⟩, ⟨by repeat (first | (with_reducible first | exact HB.out | apply below_alloc | apply pw_below_drewN | apply below_drew1) | exact HB.out)⟩⟩
            · replace c10 := Bool.eq_false_iff.mpr c10
              subst c10
              have H1 : (if 0 ≤ x6_1 then (if x6_1 ≤ (a0.size : Int) then ((instarref08_one.f kj2 (a0.extract (x6_1 : Int).toNat a0.size)).bind fun bt110 => (if bt110.2.2.2 = 0 then (some (([] : List (S76)), x6_1, 81)) else (if x5_1.length < 4398046511104 then (instarref08_Words.l0 kj2 a0 (x5_1 ++ [(⟨bt110.1, bt110.2.1, x6_1⟩ : S76)]) (wrap64 (x6_1 + bt110.2.2.2))) else (none)))) else (none)) else (none)) = some (r1, r2, r3) := by rw [if_neg (show ¬ (false = true) by decide)] at H; exact H
              clear H
              have H := H1
              clear H1
              by_cases c11 : 0 ≤ x6_1
              · rw [if_pos c11] at H
                have c11b0 := eq_true c11
                have c11b1 : decide (0 ≤ x6_1) = true := decide_eq_true c11
                clear c11
                by_cases c12 : x6_1 ≤ (a0.size : Int)
                · rw [if_pos c12] at H
                  have c12b0 := eq_true c12
                  have c12b1 : decide (x6_1 ≤ (a0.size : Int)) = true := decide_eq_true c12
                  clear c12
                  replace H := Option.bind_eq_some_iff.mp H
                  obtain ⟨⟨t110, t111, t112, t113⟩, A130, H⟩ := H
                  replace H : (if t113 = 0 then (some (([] : List (S76)), x6_1, 81)) else (if x5_1.length < 4398046511104 then (instarref08_Words.l0 kj2 a0 (x5_1 ++ [(⟨t110, t111, x6_1⟩ : S76)]) (wrap64 (x6_1 + t113))) else (none))) = some (r1, r2, r3) := H
                  have A13 := Aside0.mk A130
                  clear A130
                  by_cases c14 : t113 = 0
                  · rw [if_pos c14] at H
                    have c14b0 : (t113 == 0) = true := beq_iff_eq.mpr c14
                    have c14b1 : (t113 != 0) = false := bne_eq_false_iff_eq.mpr c14
                    clear c14
                    simp only [Option.some.injEq, Prod.mk.injEq] at H
                    obtain ⟨rfl, rfl, rfl⟩ := H
                    go_wp2_with (first | ((with_reducible refine gate_callee (f := 60) rfl ?_); refine goesL_ (some 35) rfl rfl Tryd.func60 (by kernel_rfl) rfl #[.string (a0.extract (x6_1 : Int).toNat a0.size)] rfl (by (try simp only [List.map_toArray, List.map_cons, List.map_nil]); first | done | rfl | (simp only [List.length_drop, List.length_take]; rfl)) ?_; (with_reducible refine (instarref08_one.calls kj2 (a0.extract (x6_1 : Int).toNat a0.size) t110 t111 t112 t113 _ A13.out).mono ?_); rintro e w15 ⟨rfl, hb⟩; refine ⟨_, rfl, ?_⟩; have n0_ := Aside0.mk (Kd.R_below (by (with_reducible repeat (first | apply Kd.R_alloc | apply Kd.R_drewN | apply Kd.R_drew)); exact HO_5.out) hb); have n1_ := Aside0.mk (below_step (by repeat (first | (with_reducible first | exact HB.out | apply below_alloc | apply pw_below_drewN | apply below_drew1) | exact HB.out)) hb); clear HO_5; clear HB; have HO_5 := n0_; have HB := n1_; clear n0_ n1_; (try clear hb); (try clear hb2); (try clear hk); (try clear hi)) | ((with_reducible refine gate_dst (N := 7) rfl ?_); refine box_event ?hg (N := 7) ?hd (cs := #[.int .i64 0, .string (⟨#[]⟩ : ByteArray), .int .i64 0]) (t := 76) ?hr ?_; (case hd => rfl); (case hg => rfl); (case hr => first | (go_simp; done) | (go_simp; rfl)); intro gb114 hg w16 hbox hb; have n0_ := Aside0.mk (Kd.R_below (Kd.R_elderB (by (with_reducible repeat (first | apply Kd.R_alloc | apply Kd.R_drewN | apply Kd.R_drew)); exact HO_5.out) gb114 (Nat.le_of_eq hg.symm)) hb); have n1_ := Aside0.mk (below_step (by repeat (first | (with_reducible first | exact HB.out | apply below_alloc | apply pw_below_drewN | apply below_drew1) | exact HB.out)) hb); have n2_ := Aside0.mk (hbox); have n3_ := Aside0.mk ((by rw [hg]; exact (below_size (by repeat (first | (with_reducible first | exact HB.out | apply below_alloc | apply pw_below_drewN | apply below_drew1) | exact HB.out))) : w.heap.size ≤ gb114)); have n4_ := Aside0.mk ((by rw [hg]; exact (below_size (by repeat (first | (with_reducible first | exact HB.out | apply below_alloc | apply pw_below_drewN | apply below_drew1) | exact HB.out))) : w.heap.size ≤ gb114)); clear HO_5; clear HB; have HO_5 := n0_; have HB := n1_; have BK114 := n2_; have GW114 := n3_; have GE114 := n4_; clear n0_ n1_ n2_ n3_ n4_; clear hb hbox hg; have hcz17_0 : w16.cell? ⟨gb114, 0, none⟩ = some (.int .i64 0) := (blk_cell BK114.out 0).trans rfl; have hcz17_1 : w16.cell? ⟨gb114, 1, none⟩ = some (.string (⟨#[]⟩ : ByteArray)) := (blk_cell BK114.out 1).trans rfl; have hcz17_2 : w16.cell? ⟨gb114, 2, none⟩ = some (.int .i64 0) := (blk_cell BK114.out 2).trans rfl; have hfz17_0 := blk_frozen BK114.out 0; have hfz17_1 := blk_frozen BK114.out 1; have hfz17_2 := blk_frozen BK114.out 2))
                    go_ret3
                    exact ⟨_, by first | rfl | (simp [errW_none, errW_some] <;> rfl) | (simp [*, errW_none, errW_some] <;> rfl), by first | exact Kd.R_nil _ _ _ _ _ | exact Kd.N_nil _ _ _ _ _ | exact Kd.V_nil _ _ _ _ _ | exact Kd.Q_nil _ _ _ _ _ | exact Kd.S_nil _ _ _ _ _, by repeat (first | (with_reducible first | exact HB.out | apply below_alloc | apply pw_below_drewN | apply below_drew1 | refine below_set ?_ GE114.out) | exact HB.out)⟩
                  · rw [if_neg c14] at H
                    have c14b0 : (t113 == 0) = false := beq_eq_false_iff_ne.mpr c14
                    have c14b1 : (t113 != 0) = true := bne_iff_ne.mpr c14
                    by_cases c18 : x5_1.length < 4398046511104
                    · rw [if_pos c18] at H
                      have LMc18 := Aside0.mk c18
                      clear c18
                      obtain ⟨y115, hy115⟩ : ∃ y_ : List (S76), y_ = (x5_1 ++ [(⟨t110, t111, x6_1⟩ : S76)]) := ⟨_, rfl⟩
                      replace H : (instarref08_Words.l0 kj2 a0 y115 (wrap64 (x6_1 + t113))) = some (r1, r2, r3) := by first | (rw [hy115]; with_reducible exact H) | (have H2_ := (Option.bind_some _ _).symm.trans H; rw [hy115]; with_reducible exact H2_) | (have H2_ := (Option.bind_some _ _).symm.trans H; with_reducible exact H2_) | with_reducible exact H | (rw [hy115]; exact H) | exact H
                      have Ny115 := Aside0.mk hy115
                      clear hy115
                      have H' := Aside0.mk H
                      clear H
                      go_wp2_with (first | ((with_reducible refine gate_callee (f := 60) rfl ?_); refine goesL_ (some 35) rfl rfl Tryd.func60 (by kernel_rfl) rfl #[.string (a0.extract (x6_1 : Int).toNat a0.size)] rfl (by (try simp only [List.map_toArray, List.map_cons, List.map_nil]); first | done | rfl | (simp only [List.length_drop, List.length_take]; rfl)) ?_; (with_reducible refine (instarref08_one.calls kj2 (a0.extract (x6_1 : Int).toNat a0.size) t110 t111 t112 t113 _ A13.out).mono ?_); rintro e w19 ⟨rfl, hb⟩; refine ⟨_, rfl, ?_⟩; have n0_ := Aside0.mk (Kd.R_below (by (with_reducible repeat (first | apply Kd.R_alloc | apply Kd.R_drewN | apply Kd.R_drew)); exact HO_5.out) hb); have n1_ := Aside0.mk (below_step (by repeat (first | (with_reducible first | exact HB.out | apply below_alloc | apply pw_below_drewN | apply below_drew1) | exact HB.out)) hb); clear HO_5; clear HB; have HO_5 := n0_; have HB := n1_; clear n0_ n1_; (try clear hb); (try clear hb2); (try clear hk); (try clear hi)) | ((with_reducible refine gate_dst (N := 7) rfl ?_); refine box_event ?hg (N := 7) ?hd (cs := #[.int .i64 0, .string (⟨#[]⟩ : ByteArray), .int .i64 0]) (t := 76) ?hr ?_; (case hd => rfl); (case hg => rfl); (case hr => first | (go_simp; done) | (go_simp; rfl)); intro gb114 hg w20 hbox hb; have n0_ := Aside0.mk (Kd.R_below (Kd.R_elderB (by (with_reducible repeat (first | apply Kd.R_alloc | apply Kd.R_drewN | apply Kd.R_drew)); exact HO_5.out) gb114 (Nat.le_of_eq hg.symm)) hb); have n1_ := Aside0.mk (below_step (by repeat (first | (with_reducible first | exact HB.out | apply below_alloc | apply pw_below_drewN | apply below_drew1) | exact HB.out)) hb); have n2_ := Aside0.mk (hbox); have n3_ := Aside0.mk ((by rw [hg]; exact (below_size (by repeat (first | (with_reducible first | exact HB.out | apply below_alloc | apply pw_below_drewN | apply below_drew1) | exact HB.out))) : w.heap.size ≤ gb114)); have n4_ := Aside0.mk ((by rw [hg]; exact (below_size (by repeat (first | (with_reducible first | exact HB.out | apply below_alloc | apply pw_below_drewN | apply below_drew1) | exact HB.out))) : w.heap.size ≤ gb114)); clear HO_5; clear HB; have HO_5 := n0_; have HB := n1_; have BK114 := n2_; have GW114 := n3_; have GE114 := n4_; clear n0_ n1_ n2_ n3_ n4_; clear hb hbox hg; have hcz21_0 : w20.cell? ⟨gb114, 0, none⟩ = some (.int .i64 0) := (blk_cell BK114.out 0).trans rfl; have hcz21_1 : w20.cell? ⟨gb114, 1, none⟩ = some (.string (⟨#[]⟩ : ByteArray)) := (blk_cell BK114.out 1).trans rfl; have hcz21_2 : w20.cell? ⟨gb114, 2, none⟩ = some (.int .i64 0) := (blk_cell BK114.out 2).trans rfl; have hfz21_0 := blk_frozen BK114.out 0; have hfz21_1 := blk_frozen BK114.out 1; have hfz21_2 := blk_frozen BK114.out 2; have hcw21 : ∀ (a : Int) (b : ByteArray) (c d : Int), ((((w20.setCell ⟨gb114, 0, none⟩ (.int .i64 a)).setCell ⟨gb114, 1, none⟩ (.string b)).setCell ⟨gb114, 2, none⟩ (.int .i64 c)).setCell ⟨gb114, 2, none⟩ (.int .i64 d)).cell? ⟨gb114, 2, none⟩ = some (.int .i64 d) := fun a b c d => (blk_cell (blk_put (cs := #[.int .i64 a, .string b, .int .i64 c]) (blk_put (cs := #[.int .i64 a, .string b, .int .i64 0]) (blk_put (cs := #[.int .i64 a, .string (⟨#[]⟩ : ByteArray), .int .i64 0]) (blk_put (cs := #[.int .i64 0, .string (⟨#[]⟩ : ByteArray), .int .i64 0]) BK114.out 0 _ rfl) 1 _ rfl) 2 _ rfl) 2 _ rfl) 2).trans rfl) | ((with_reducible refine gate_builtin (b := .append) (xs := #[.tmp 43, .tmp 45]) rfl ?_); at_builtin; refine Kd.R_append k76 (w0 := w) w.heap.size rfl (.tmp 43) (.tmp 45) 72 76 (.agg #[(.int .i64 0), (.string ⟨#[]⟩), (.int .i64 0)]) 32 rfl Tryd.underlying72 info76 rfl (by decide) (by omega) u5 x5_1 (⟨t110, t111, x6_1⟩ : S76) [.int .i64 t110, .string t111, .int .i64 x6_1] (fun k_ => k_ ≠ gb114) (fun _ => False) rfl (by first | (go_simp; done) | (go_simp; rfl)) ?aP (fun _ hk => hk.elim) ?aF ?aO ?aB ?aS ?aL ?_; (case aP => exact k76_mkM _ _ _ (⟨t110, t111, x6_1⟩ : S76)); (case aB => exact (by repeat (first | (with_reducible first | exact HB.out | apply below_alloc | apply pw_below_drewN | apply below_drew1 | refine below_set ?_ GE114.out) | exact HB.out))); (case aF => exact (fun k_ hk => Kd.freshB (g := gb114) (o := .cells #[.int .i64 t110, .string t111, .int .i64 x6_1] 76 (0, 0)) (by (with_reducible repeat (first | refine blk_drewN ?_ _ | refine blk_drew ?_ | refine blk_alloc ?_ _)); refine blk_put (cs := #[.int .i64 t110, .string t111, .int .i64 t112]) ?_ 2 _ rfl; (with_reducible repeat (first | refine blk_drewN ?_ _ | refine blk_drew ?_ | refine blk_alloc ?_ _)); refine blk_put (cs := #[.int .i64 t110, .string t111, .int .i64 0]) ?_ 2 _ rfl; (with_reducible repeat (first | refine blk_drewN ?_ _ | refine blk_drew ?_ | refine blk_alloc ?_ _)); refine blk_put (cs := #[.int .i64 t110, .string (⟨#[]⟩ : ByteArray), .int .i64 0]) ?_ 1 _ rfl; (with_reducible repeat (first | refine blk_drewN ?_ _ | refine blk_drew ?_ | refine blk_alloc ?_ _)); refine blk_put (cs := #[.int .i64 0, .string (⟨#[]⟩ : ByteArray), .int .i64 0]) ?_ 0 _ rfl; (with_reducible repeat (first | refine blk_drewN ?_ _ | refine blk_drew ?_ | refine blk_alloc ?_ _)); exact BK114.out) k_ hk)); (case aO => exact (by (with_reducible repeat (first | apply Kd.R_alloc | apply Kd.R_drewN | apply Kd.R_drew)); exact Kd.R_mono (Kd.R_far (p := ⟨gb114, 2, none⟩) (Kd.R_far (p := ⟨gb114, 2, none⟩) (Kd.R_far (p := ⟨gb114, 1, none⟩) (Kd.R_far (p := ⟨gb114, 0, none⟩) (Kd.R_mono HO_5.out (fun k_ hk => (⟨hk, hk.2⟩ : _ ∧ k_ ≠ gb114))) (fun _ hk => hk.2) (.int .i64 t110)) (fun _ hk => hk.2) (.string t111)) (fun _ hk => hk.2) (.int .i64 t112)) (fun _ hk => hk.2) (.int .i64 x6_1)) (fun _ hk => hk.1.2))); (case aS => exact (below_size (by repeat (first | (with_reducible first | exact HB.out | apply below_alloc | apply pw_below_drewN | apply below_drew1 | refine below_set ?_ GE114.out) | exact HB.out)))); (case aL => have := LMc18.out; omega); intro v116 w22 ho hb hg hat; rw [← Ny115.out] at ho; have n0_ := Aside0.mk (blk_grown (g := gb114) (o := .cells #[.int .i64 t110, .string t111, .int .i64 x6_1] 76 (0, 0)) (by (with_reducible repeat (first | refine blk_drewN ?_ _ | refine blk_drew ?_ | refine blk_alloc ?_ _)); refine blk_put (cs := #[.int .i64 t110, .string t111, .int .i64 t112]) ?_ 2 _ rfl; (with_reducible repeat (first | refine blk_drewN ?_ _ | refine blk_drew ?_ | refine blk_alloc ?_ _)); refine blk_put (cs := #[.int .i64 t110, .string t111, .int .i64 0]) ?_ 2 _ rfl; (with_reducible repeat (first | refine blk_drewN ?_ _ | refine blk_drew ?_ | refine blk_alloc ?_ _)); refine blk_put (cs := #[.int .i64 t110, .string (⟨#[]⟩ : ByteArray), .int .i64 0]) ?_ 1 _ rfl; (with_reducible repeat (first | refine blk_drewN ?_ _ | refine blk_drew ?_ | refine blk_alloc ?_ _)); refine blk_put (cs := #[.int .i64 0, .string (⟨#[]⟩ : ByteArray), .int .i64 0]) ?_ 0 _ rfl; (with_reducible repeat (first | refine blk_drewN ?_ _ | refine blk_drew ?_ | refine blk_alloc ?_ _)); exact BK114.out) hg (Kd.R_away HO_5.out (fun _ hk => hk.2))); have n1_ := Aside0.mk (hb); have n2_ := Aside0.mk (ho); clear BK114; clear HB; clear HO_5; have BK114 := n0_; have HB := n1_; have HO117 := n2_; clear n0_ n1_ n2_; clear ho hb hg hat))
                      go_roundg kj2
                      case measure => have := HK1.out; have := HJ2.out; omega
                      case rel => exact ⟨(y115), (wrap64 (x6_1 + t113)), (by first | rfl | (simp; done) | (simp [*]; done)), H', ⟨by have := HK1.out; have := HJ2.out; omega⟩, ⟨by (with_reducible repeat (first | apply Kd.R_alloc | apply Kd.R_drewN | apply Kd.R_drew)); exact Kd.R_mono HO117.out (fun _ hk => trivial)⟩, ⟨by repeat (first | (with_reducible first | exact HB.out | apply below_alloc | apply pw_below_drewN | apply below_drew1 | refine below_set ?_ GE114.out) | exact HB.out)⟩⟩
                    · rw [if_neg c18] at H
                      exact absurd H (by simp)
                · rw [if_neg c12] at H
                  exact absurd H (by simp)
              · rw [if_neg c11] at H
                exact absurd H (by simp)
      · rw [if_neg c2] at H
        have c2b0 : decide (x6_1 < (a0.size : Int)) = false := decide_eq_false c2
        clear c2
        simp only [Option.some.injEq, Prod.mk.injEq] at H
        obtain ⟨rfl, rfl, rfl⟩ := H
        go_wp2
        go_ret3
        exact ⟨_, by first | rfl | (simp [errW_none, errW_some] <;> rfl) | (simp [*, errW_none, errW_some] <;> rfl), by (with_reducible repeat (first | apply Kd.R_alloc | apply Kd.R_drewN | apply Kd.R_drew)); exact HO_5.out, by repeat (first | (with_reducible first | exact HB.out | apply below_alloc | apply pw_below_drewN | apply below_drew1) | exact HB.out)⟩

/-! ### instarref08_Own: function 51 -/
def instarref08_Own.f (a0 : ByteArray) : Option (Bool) := if a0.toList = ([116, 114, 117, 101] : List UInt8) then (some true) else (if a0.toList = ([102, 97, 108, 115, 101] : List UInt8) then (some true) else (if a0.toList = ([110, 117, 108, 108] : List UInt8) then (some true) else (if a0.toList = ([97, 110, 100] : List UInt8) then (some true) else (if a0.toList = ([111, 114] : List UInt8) then (some true) else (if a0.toList = ([110, 111, 116] : List UInt8) then (some true) else (if a0.toList = ([105, 115] : List UInt8) then (some true) else (some false)))))))
set_option maxHeartbeats 8000000 in
set_option maxRecDepth 100000 in
theorem instarref08_Own.calls (a0 : ByteArray) (r : Bool) (w : World) (h : instarref08_Own.f a0 = some r) :
    Calls Tryd.prog 51 #[.string a0] w fun e w' => e = .returned (.bool r) ∧ Drawn0 w w' := by
  have H : (if a0.toList = ([116, 114, 117, 101] : List UInt8) then (some true) else (if a0.toList = ([102, 97, 108, 115, 101] : List UInt8) then (some true) else (if a0.toList = ([110, 117, 108, 108] : List UInt8) then (some true) else (if a0.toList = ([97, 110, 100] : List UInt8) then (some true) else (if a0.toList = ([111, 114] : List UInt8) then (some true) else (if a0.toList = ([110, 111, 116] : List UInt8) then (some true) else (if a0.toList = ([105, 115] : List UInt8) then (some true) else (some false)))))))) = some r := h
  clear h
  by_cases c2 : a0.toList = ([116, 114, 117, 101] : List UInt8)
  · rw [if_pos c2] at H
    have c2b0 : (a0.toList == ([116, 114, 117, 101] : List UInt8)) = true := beq_iff_eq.mpr c2
    have c2b1 : (a0.toList != ([116, 114, 117, 101] : List UInt8)) = false := bne_eq_false_iff_eq.mpr c2
    clear c2
    obtain rfl := Option.some.inj H
    go_enter Tryd.func51, Tryd.ntmps51
    go_wp2
    go_ret
    exact ⟨by first | rfl | (simp; done) | (simp [*]; done), by repeat (first | exact Drawn0.refl _ | apply Drawn0.step)⟩
  · rw [if_neg c2] at H
    have c2b0 : (a0.toList == ([116, 114, 117, 101] : List UInt8)) = false := beq_eq_false_iff_ne.mpr c2
    have c2b1 : (a0.toList != ([116, 114, 117, 101] : List UInt8)) = true := bne_iff_ne.mpr c2
    by_cases c3 : a0.toList = ([102, 97, 108, 115, 101] : List UInt8)
    · rw [if_pos c3] at H
      have c3b0 : (a0.toList == ([102, 97, 108, 115, 101] : List UInt8)) = true := beq_iff_eq.mpr c3
      have c3b1 : (a0.toList != ([102, 97, 108, 115, 101] : List UInt8)) = false := bne_eq_false_iff_eq.mpr c3
      clear c3
      obtain rfl := Option.some.inj H
      go_enter Tryd.func51, Tryd.ntmps51
      go_wp2
      go_ret
      exact ⟨by first | rfl | (simp; done) | (simp [*]; done), by repeat (first | exact Drawn0.refl _ | apply Drawn0.step)⟩
    · rw [if_neg c3] at H
      have c3b0 : (a0.toList == ([102, 97, 108, 115, 101] : List UInt8)) = false := beq_eq_false_iff_ne.mpr c3
      have c3b1 : (a0.toList != ([102, 97, 108, 115, 101] : List UInt8)) = true := bne_iff_ne.mpr c3
      by_cases c4 : a0.toList = ([110, 117, 108, 108] : List UInt8)
      · rw [if_pos c4] at H
        have c4b0 : (a0.toList == ([110, 117, 108, 108] : List UInt8)) = true := beq_iff_eq.mpr c4
        have c4b1 : (a0.toList != ([110, 117, 108, 108] : List UInt8)) = false := bne_eq_false_iff_eq.mpr c4
        clear c4
        obtain rfl := Option.some.inj H
        go_enter Tryd.func51, Tryd.ntmps51
        go_wp2
        go_ret
        exact ⟨by first | rfl | (simp; done) | (simp [*]; done), by repeat (first | exact Drawn0.refl _ | apply Drawn0.step)⟩
      · rw [if_neg c4] at H
        have c4b0 : (a0.toList == ([110, 117, 108, 108] : List UInt8)) = false := beq_eq_false_iff_ne.mpr c4
        have c4b1 : (a0.toList != ([110, 117, 108, 108] : List UInt8)) = true := bne_iff_ne.mpr c4
        by_cases c5 : a0.toList = ([97, 110, 100] : List UInt8)
        · rw [if_pos c5] at H
          have c5b0 : (a0.toList == ([97, 110, 100] : List UInt8)) = true := beq_iff_eq.mpr c5
          have c5b1 : (a0.toList != ([97, 110, 100] : List UInt8)) = false := bne_eq_false_iff_eq.mpr c5
          clear c5
          obtain rfl := Option.some.inj H
          go_enter Tryd.func51, Tryd.ntmps51
          go_wp2
          go_ret
          exact ⟨by first | rfl | (simp; done) | (simp [*]; done), by repeat (first | exact Drawn0.refl _ | apply Drawn0.step)⟩
        · rw [if_neg c5] at H
          have c5b0 : (a0.toList == ([97, 110, 100] : List UInt8)) = false := beq_eq_false_iff_ne.mpr c5
          have c5b1 : (a0.toList != ([97, 110, 100] : List UInt8)) = true := bne_iff_ne.mpr c5
          by_cases c6 : a0.toList = ([111, 114] : List UInt8)
          · rw [if_pos c6] at H
            have c6b0 : (a0.toList == ([111, 114] : List UInt8)) = true := beq_iff_eq.mpr c6
            have c6b1 : (a0.toList != ([111, 114] : List UInt8)) = false := bne_eq_false_iff_eq.mpr c6
            clear c6
            obtain rfl := Option.some.inj H
            go_enter Tryd.func51, Tryd.ntmps51
            go_wp2
            go_ret
            exact ⟨by first | rfl | (simp; done) | (simp [*]; done), by repeat (first | exact Drawn0.refl _ | apply Drawn0.step)⟩
          · rw [if_neg c6] at H
            have c6b0 : (a0.toList == ([111, 114] : List UInt8)) = false := beq_eq_false_iff_ne.mpr c6
            have c6b1 : (a0.toList != ([111, 114] : List UInt8)) = true := bne_iff_ne.mpr c6
            by_cases c7 : a0.toList = ([110, 111, 116] : List UInt8)
            · rw [if_pos c7] at H
              have c7b0 : (a0.toList == ([110, 111, 116] : List UInt8)) = true := beq_iff_eq.mpr c7
              have c7b1 : (a0.toList != ([110, 111, 116] : List UInt8)) = false := bne_eq_false_iff_eq.mpr c7
              clear c7
              obtain rfl := Option.some.inj H
              go_enter Tryd.func51, Tryd.ntmps51
              go_wp2
              go_ret
              exact ⟨by first | rfl | (simp; done) | (simp [*]; done), by repeat (first | exact Drawn0.refl _ | apply Drawn0.step)⟩
            · rw [if_neg c7] at H
              have c7b0 : (a0.toList == ([110, 111, 116] : List UInt8)) = false := beq_eq_false_iff_ne.mpr c7
              have c7b1 : (a0.toList != ([110, 111, 116] : List UInt8)) = true := bne_iff_ne.mpr c7
              by_cases c8 : a0.toList = ([105, 115] : List UInt8)
              · rw [if_pos c8] at H
                have c8b0 : (a0.toList == ([105, 115] : List UInt8)) = true := beq_iff_eq.mpr c8
                have c8b1 : (a0.toList != ([105, 115] : List UInt8)) = false := bne_eq_false_iff_eq.mpr c8
                clear c8
                obtain rfl := Option.some.inj H
                go_enter Tryd.func51, Tryd.ntmps51
                go_wp2
                go_ret
                exact ⟨by first | rfl | (simp; done) | (simp [*]; done), by repeat (first | exact Drawn0.refl _ | apply Drawn0.step)⟩
              · rw [if_neg c8] at H
                have c8b0 : (a0.toList == ([105, 115] : List UInt8)) = false := beq_eq_false_iff_ne.mpr c8
                have c8b1 : (a0.toList != ([105, 115] : List UInt8)) = true := bne_iff_ne.mpr c8
                obtain rfl := Option.some.inj H
                go_enter Tryd.func51, Tryd.ntmps51
                go_wp2
                go_ret
                exact ⟨by first | rfl | (simp; done) | (simp [*]; done), by repeat (first | exact Drawn0.refl _ | apply Drawn0.step)⟩

/-! ### instarref12_Name: function 29 -/
def instarref12_Name.f (k : Nat) (a0 : ByteArray) : Option (Bool) := (instarref08_Words.f k a0).bind fun bt118 => ((instarref08_Own.f a0).bind fun t123 => (if bt118.2.2 = 0 then (if (bt118.1.length : Int) = 1 then (if 0 < (bt118.1.length : Int) then (if ((rd_T76 bt118.1 0).f0) = 0 then (if ((rd_T76 bt118.1 0).f1).toList = a0.toList then (some (!t123)) else (some false)) else (some false)) else (none)) else (some false)) else (some false)))
theorem instarref12_Name.mono : ∀ a0 k, LeO (instarref12_Name.f k a0) (instarref12_Name.f (k + 1) a0) := by
  intro a0 k
  unfold instarref12_Name.f
  repeat' first
      | (with_reducible exact instarref08_Words.mono _ _)
      | (with_reducible exact LeO.refl _)
      | (with_reducible exact LeO.none _)
      | (with_reducible refine LeO.ite ?_ ?_)
      | (with_reducible refine LeO.bind ?_ (fun _ => ?_))
      | exact instarref08_Words.mono _ _
      | exact LeO.none _
      | refine LeO.ite ?_ ?_
      | refine LeO.bind ?_ (fun _ => ?_)
set_option maxHeartbeats 8000000 in
set_option maxRecDepth 100000 in
theorem instarref12_Name.calls (k : Nat) (a0 : ByteArray) (r : Bool) (w : World) (h : instarref12_Name.f k a0 = some r) :
    Calls Tryd.prog 29 #[.string a0] w fun e w' => e = .returned (.bool r) ∧ Below w.heap.size w w' := by
  have HB := Aside0.mk (Below.refl w.heap.size w)
  have H : ((instarref08_Words.f k a0).bind fun bt118 => ((instarref08_Own.f a0).bind fun t123 => (if bt118.2.2 = 0 then (if (bt118.1.length : Int) = 1 then (if 0 < (bt118.1.length : Int) then (if ((rd_T76 bt118.1 0).f0) = 0 then (if ((rd_T76 bt118.1 0).f1).toList = a0.toList then (some (!t123)) else (some false)) else (some false)) else (none)) else (some false)) else (some false)))) = some r := h
  clear h
  replace H := Option.bind_eq_some_iff.mp H
  obtain ⟨⟨t118, t119, t120⟩, A20, H⟩ := H
  replace H : ((instarref08_Own.f a0).bind fun t123 => (if t120 = 0 then (if (t118.length : Int) = 1 then (if 0 < (t118.length : Int) then (if ((rd_T76 t118 0).f0) = 0 then (if ((rd_T76 t118 0).f1).toList = a0.toList then (some (!t123)) else (some false)) else (some false)) else (none)) else (some false)) else (some false))) = some r := H
  have A2 := Aside0.mk A20
  clear A20
  replace H := Option.bind_eq_some_iff.mp H
  obtain ⟨t123, A30, H⟩ := H
  replace H : (if t120 = 0 then (if (t118.length : Int) = 1 then (if 0 < (t118.length : Int) then (if ((rd_T76 t118 0).f0) = 0 then (if ((rd_T76 t118 0).f1).toList = a0.toList then (some (!t123)) else (some false)) else (some false)) else (none)) else (some false)) else (some false)) = some r := H
  have A3 := Aside0.mk A30
  clear A30
  by_cases c4 : t120 = 0
  · rw [if_pos c4] at H
    have c4b0 : (t120 == 0) = true := beq_iff_eq.mpr c4
    have c4b1 : (t120 != 0) = false := bne_eq_false_iff_eq.mpr c4
    clear c4
    by_cases c5 : (t118.length : Int) = 1
    · rw [if_pos c5] at H
      have c5b0 : ((t118.length : Int) == 1) = true := beq_iff_eq.mpr c5
      have c5b1 : ((t118.length : Int) != 1) = false := bne_eq_false_iff_eq.mpr c5
      clear c5
      by_cases c6 : 0 < (t118.length : Int)
      · rw [if_pos c6] at H
        have c6b0 : decide (0 < (t118.length : Int)) = true := decide_eq_true c6
        have c6b1 : decide (0 < t118.length) = true := decide_eq_true (by omega)
        clear c6
        by_cases c7 : ((rd_T76 t118 0).f0) = 0
        · rw [if_pos c7] at H
          have c7b0 : (((rd_T76 t118 0).f0) == 0) = true := beq_iff_eq.mpr c7
          have c7b1 : (((rd_T76 t118 0).f0) != 0) = false := bne_eq_false_iff_eq.mpr c7
          clear c7
          by_cases c8 : ((rd_T76 t118 0).f1).toList = a0.toList
          · rw [if_pos c8] at H
            have c8b0 : (((rd_T76 t118 0).f1).toList == a0.toList) = true := beq_iff_eq.mpr c8
            have c8b1 : (((rd_T76 t118 0).f1).toList != a0.toList) = false := bne_eq_false_iff_eq.mpr c8
            clear c8
            obtain rfl := Option.some.inj H
            go_enter Tryd.func29, Tryd.ntmps29
            go_wp2_with (first | ((with_reducible refine gate_callee (f := 50) rfl ?_); refine goesL_ (some 9) rfl rfl Tryd.func50 (by kernel_rfl) rfl #[.string a0] rfl (by (try simp only [List.map_toArray, List.map_cons, List.map_nil]); first | done | rfl | (simp only [List.length_drop, List.length_take]; rfl)) ?_; (with_reducible refine (instarref08_Words.calls k a0 t118 t119 t120 _ A2.out).mono ?_); rintro e w9 ⟨v121, rfl, ho0, hb⟩; refine ⟨_, rfl, ?_⟩; have n0_ := Aside0.mk (Kd.R_lower ho0 (below_size (by repeat (first | (with_reducible first | exact HB.out | apply below_alloc | apply pw_below_drewN | apply below_drew1) | exact HB.out)))); have n1_ := Aside0.mk (below_step (by repeat (first | (with_reducible first | exact HB.out | apply below_alloc | apply pw_below_drewN | apply below_drew1) | exact HB.out)) hb); clear HB; have HO122 := n0_; have HB := n1_; clear n0_ n1_; (try clear hb); (try clear hb2); (try clear hk); (try clear hi); (try clear ho0)) | ((with_reducible refine gate_callee (f := 51) rfl ?_); refine goesL_ (some 14) rfl rfl Tryd.func51 (by kernel_rfl) rfl #[.string a0] rfl (by (try simp only [List.map_toArray, List.map_cons, List.map_nil]); first | done | rfl | (simp only [List.length_drop, List.length_take]; rfl)) ?_; (with_reducible refine (instarref08_Own.calls a0 t123 _ A3.out).mono ?_); rintro e w' ⟨rfl, ⟨nd, rfl⟩⟩; refine ⟨_, rfl, ?_⟩; obtain ⟨Ao10, co10, eo10⟩ := Kd.R_slice HO122.out; subst eo10; have p124 : 0 ≤ (0 : Int) := (by omega); have q124 : 0 < (t118.length : Int) := of_decide_eq_true (by first | (with_reducible assumption) | assumption); obtain ⟨ad124, e124, hx124_0, hx124_1, hx124_2⟩ := at_T76 (Kd.R_reads' HO122.out).2.2 0 p124 q124; cases e124; have qi124 : (0 < t118.length) = True := eq_true (by omega); (try rw [show ((0 : Int)).toNat = 0 from rfl] at hx124_0); (try rw [show 0 * 3 = 0 from rfl] at hx124_0); (try rw [Addr.add_zero'] at hx124_0); (try rw [show ((0 : Int)).toNat = 0 from rfl] at hx124_1); (try rw [show 0 * 3 = 0 from rfl] at hx124_1); (try rw [Addr.add_zero'] at hx124_1); (try rw [show ((0 : Int)).toNat = 0 from rfl] at hx124_2); (try rw [show 0 * 3 = 0 from rfl] at hx124_2); (try rw [Addr.add_zero'] at hx124_2); replace p124 := eq_true p124; replace q124 := eq_true q124; have p125 : 0 ≤ (0 : Int) := (by omega); have q125 : 0 < (t118.length : Int) := of_decide_eq_true (by first | (with_reducible assumption) | assumption); obtain ⟨ad125, e125, hx125_0, hx125_1, hx125_2⟩ := at_T76 (Kd.R_reads' HO122.out).2.2 0 p125 q125; obtain rfl : ad124 = ad125 := (by injection e125); have qi125 : (0 < t118.length) = True := eq_true (by omega); (try rw [show ((0 : Int)).toNat = 0 from rfl] at hx125_0); (try rw [show 0 * 3 = 0 from rfl] at hx125_0); (try rw [Addr.add_zero'] at hx125_0); (try rw [show ((0 : Int)).toNat = 0 from rfl] at hx125_1); (try rw [show 0 * 3 = 0 from rfl] at hx125_1); (try rw [Addr.add_zero'] at hx125_1); (try rw [show ((0 : Int)).toNat = 0 from rfl] at hx125_2); (try rw [show 0 * 3 = 0 from rfl] at hx125_2); (try rw [Addr.add_zero'] at hx125_2); replace p125 := eq_true p125; replace q125 := eq_true q125))
            go_ret
            exact ⟨by first | rfl | (simp [errW_none, errW_some] <;> rfl) | (simp [*, errW_none, errW_some] <;> rfl), by repeat (first | (with_reducible first | exact HB.out | apply below_alloc | apply pw_below_drewN | apply below_drew1) | exact HB.out)⟩
          · rw [if_neg c8] at H
            have c8b0 : (((rd_T76 t118 0).f1).toList == a0.toList) = false := beq_eq_false_iff_ne.mpr c8
            have c8b1 : (((rd_T76 t118 0).f1).toList != a0.toList) = true := bne_iff_ne.mpr c8
            obtain rfl := Option.some.inj H
            go_enter Tryd.func29, Tryd.ntmps29
            go_wp2_with (first | ((with_reducible refine gate_callee (f := 50) rfl ?_); refine goesL_ (some 9) rfl rfl Tryd.func50 (by kernel_rfl) rfl #[.string a0] rfl (by (try simp only [List.map_toArray, List.map_cons, List.map_nil]); first | done | rfl | (simp only [List.length_drop, List.length_take]; rfl)) ?_; (with_reducible refine (instarref08_Words.calls k a0 t118 t119 t120 _ A2.out).mono ?_); rintro e w11 ⟨v121, rfl, ho0, hb⟩; refine ⟨_, rfl, ?_⟩; have n0_ := Aside0.mk (Kd.R_lower ho0 (below_size (by repeat (first | (with_reducible first | exact HB.out | apply below_alloc | apply pw_below_drewN | apply below_drew1) | exact HB.out)))); have n1_ := Aside0.mk (below_step (by repeat (first | (with_reducible first | exact HB.out | apply below_alloc | apply pw_below_drewN | apply below_drew1) | exact HB.out)) hb); clear HB; have HO122 := n0_; have HB := n1_; clear n0_ n1_; (try clear hb); (try clear hb2); (try clear hk); (try clear hi); (try clear ho0)) | ((with_reducible refine gate_callee (f := 51) rfl ?_); refine goesL_ (some 14) rfl rfl Tryd.func51 (by kernel_rfl) rfl #[.string a0] rfl (by (try simp only [List.map_toArray, List.map_cons, List.map_nil]); first | done | rfl | (simp only [List.length_drop, List.length_take]; rfl)) ?_; (with_reducible refine (instarref08_Own.calls a0 t123 _ A3.out).mono ?_); rintro e w' ⟨rfl, ⟨nd, rfl⟩⟩; refine ⟨_, rfl, ?_⟩; obtain ⟨Ao12, co12, eo12⟩ := Kd.R_slice HO122.out; subst eo12; have p124 : 0 ≤ (0 : Int) := (by omega); have q124 : 0 < (t118.length : Int) := of_decide_eq_true (by first | (with_reducible assumption) | assumption); obtain ⟨ad124, e124, hx124_0, hx124_1, hx124_2⟩ := at_T76 (Kd.R_reads' HO122.out).2.2 0 p124 q124; cases e124; have qi124 : (0 < t118.length) = True := eq_true (by omega); (try rw [show ((0 : Int)).toNat = 0 from rfl] at hx124_0); (try rw [show 0 * 3 = 0 from rfl] at hx124_0); (try rw [Addr.add_zero'] at hx124_0); (try rw [show ((0 : Int)).toNat = 0 from rfl] at hx124_1); (try rw [show 0 * 3 = 0 from rfl] at hx124_1); (try rw [Addr.add_zero'] at hx124_1); (try rw [show ((0 : Int)).toNat = 0 from rfl] at hx124_2); (try rw [show 0 * 3 = 0 from rfl] at hx124_2); (try rw [Addr.add_zero'] at hx124_2); replace p124 := eq_true p124; replace q124 := eq_true q124; have p125 : 0 ≤ (0 : Int) := (by omega); have q125 : 0 < (t118.length : Int) := of_decide_eq_true (by first | (with_reducible assumption) | assumption); obtain ⟨ad125, e125, hx125_0, hx125_1, hx125_2⟩ := at_T76 (Kd.R_reads' HO122.out).2.2 0 p125 q125; obtain rfl : ad124 = ad125 := (by injection e125); have qi125 : (0 < t118.length) = True := eq_true (by omega); (try rw [show ((0 : Int)).toNat = 0 from rfl] at hx125_0); (try rw [show 0 * 3 = 0 from rfl] at hx125_0); (try rw [Addr.add_zero'] at hx125_0); (try rw [show ((0 : Int)).toNat = 0 from rfl] at hx125_1); (try rw [show 0 * 3 = 0 from rfl] at hx125_1); (try rw [Addr.add_zero'] at hx125_1); (try rw [show ((0 : Int)).toNat = 0 from rfl] at hx125_2); (try rw [show 0 * 3 = 0 from rfl] at hx125_2); (try rw [Addr.add_zero'] at hx125_2); replace p125 := eq_true p125; replace q125 := eq_true q125))
            go_ret
            exact ⟨by first | rfl | (simp [errW_none, errW_some] <;> rfl) | (simp [*, errW_none, errW_some] <;> rfl), by repeat (first | (with_reducible first | exact HB.out | apply below_alloc | apply pw_below_drewN | apply below_drew1) | exact HB.out)⟩
        · rw [if_neg c7] at H
          have c7b0 : (((rd_T76 t118 0).f0) == 0) = false := beq_eq_false_iff_ne.mpr c7
          have c7b1 : (((rd_T76 t118 0).f0) != 0) = true := bne_iff_ne.mpr c7
          obtain rfl := Option.some.inj H
          go_enter Tryd.func29, Tryd.ntmps29
          go_wp2_with (first | ((with_reducible refine gate_callee (f := 50) rfl ?_); refine goesL_ (some 9) rfl rfl Tryd.func50 (by kernel_rfl) rfl #[.string a0] rfl (by (try simp only [List.map_toArray, List.map_cons, List.map_nil]); first | done | rfl | (simp only [List.length_drop, List.length_take]; rfl)) ?_; (with_reducible refine (instarref08_Words.calls k a0 t118 t119 t120 _ A2.out).mono ?_); rintro e w13 ⟨v121, rfl, ho0, hb⟩; refine ⟨_, rfl, ?_⟩; have n0_ := Aside0.mk (Kd.R_lower ho0 (below_size (by repeat (first | (with_reducible first | exact HB.out | apply below_alloc | apply pw_below_drewN | apply below_drew1) | exact HB.out)))); have n1_ := Aside0.mk (below_step (by repeat (first | (with_reducible first | exact HB.out | apply below_alloc | apply pw_below_drewN | apply below_drew1) | exact HB.out)) hb); clear HB; have HO122 := n0_; have HB := n1_; clear n0_ n1_; (try clear hb); (try clear hb2); (try clear hk); (try clear hi); (try clear ho0)) | ((with_reducible refine gate_callee (f := 51) rfl ?_); refine goesL_ (some 14) rfl rfl Tryd.func51 (by kernel_rfl) rfl #[.string a0] rfl (by (try simp only [List.map_toArray, List.map_cons, List.map_nil]); first | done | rfl | (simp only [List.length_drop, List.length_take]; rfl)) ?_; (with_reducible refine (instarref08_Own.calls a0 t123 _ A3.out).mono ?_); rintro e w' ⟨rfl, ⟨nd, rfl⟩⟩; refine ⟨_, rfl, ?_⟩; obtain ⟨Ao14, co14, eo14⟩ := Kd.R_slice HO122.out; subst eo14; have p124 : 0 ≤ (0 : Int) := (by omega); have q124 : 0 < (t118.length : Int) := of_decide_eq_true (by first | (with_reducible assumption) | assumption); obtain ⟨ad124, e124, hx124_0, hx124_1, hx124_2⟩ := at_T76 (Kd.R_reads' HO122.out).2.2 0 p124 q124; cases e124; have qi124 : (0 < t118.length) = True := eq_true (by omega); (try rw [show ((0 : Int)).toNat = 0 from rfl] at hx124_0); (try rw [show 0 * 3 = 0 from rfl] at hx124_0); (try rw [Addr.add_zero'] at hx124_0); (try rw [show ((0 : Int)).toNat = 0 from rfl] at hx124_1); (try rw [show 0 * 3 = 0 from rfl] at hx124_1); (try rw [Addr.add_zero'] at hx124_1); (try rw [show ((0 : Int)).toNat = 0 from rfl] at hx124_2); (try rw [show 0 * 3 = 0 from rfl] at hx124_2); (try rw [Addr.add_zero'] at hx124_2); replace p124 := eq_true p124; replace q124 := eq_true q124))
          go_ret
          exact ⟨by first | rfl | (simp [errW_none, errW_some] <;> rfl) | (simp [*, errW_none, errW_some] <;> rfl), by repeat (first | (with_reducible first | exact HB.out | apply below_alloc | apply pw_below_drewN | apply below_drew1) | exact HB.out)⟩
      · rw [if_neg c6] at H
        exact absurd H (by simp)
    · rw [if_neg c5] at H
      have c5b0 : ((t118.length : Int) == 1) = false := beq_eq_false_iff_ne.mpr c5
      have c5b1 : ((t118.length : Int) != 1) = true := bne_iff_ne.mpr c5
      obtain rfl := Option.some.inj H
      go_enter Tryd.func29, Tryd.ntmps29
      go_wp2_with (first | ((with_reducible refine gate_callee (f := 50) rfl ?_); refine goesL_ (some 9) rfl rfl Tryd.func50 (by kernel_rfl) rfl #[.string a0] rfl (by (try simp only [List.map_toArray, List.map_cons, List.map_nil]); first | done | rfl | (simp only [List.length_drop, List.length_take]; rfl)) ?_; (with_reducible refine (instarref08_Words.calls k a0 t118 t119 t120 _ A2.out).mono ?_); rintro e w15 ⟨v121, rfl, ho0, hb⟩; refine ⟨_, rfl, ?_⟩; have n0_ := Aside0.mk (Kd.R_lower ho0 (below_size (by repeat (first | (with_reducible first | exact HB.out | apply below_alloc | apply pw_below_drewN | apply below_drew1) | exact HB.out)))); have n1_ := Aside0.mk (below_step (by repeat (first | (with_reducible first | exact HB.out | apply below_alloc | apply pw_below_drewN | apply below_drew1) | exact HB.out)) hb); clear HB; have HO122 := n0_; have HB := n1_; clear n0_ n1_; (try clear hb); (try clear hb2); (try clear hk); (try clear hi); (try clear ho0)) | ((with_reducible refine gate_callee (f := 51) rfl ?_); refine goesL_ (some 14) rfl rfl Tryd.func51 (by kernel_rfl) rfl #[.string a0] rfl (by (try simp only [List.map_toArray, List.map_cons, List.map_nil]); first | done | rfl | (simp only [List.length_drop, List.length_take]; rfl)) ?_; (with_reducible refine (instarref08_Own.calls a0 t123 _ A3.out).mono ?_); rintro e w' ⟨rfl, ⟨nd, rfl⟩⟩; refine ⟨_, rfl, ?_⟩; obtain ⟨Ao16, co16, eo16⟩ := Kd.R_slice HO122.out; subst eo16))
      go_ret
      exact ⟨by first | rfl | (simp [errW_none, errW_some] <;> rfl) | (simp [*, errW_none, errW_some] <;> rfl), by repeat (first | (with_reducible first | exact HB.out | apply below_alloc | apply pw_below_drewN | apply below_drew1) | exact HB.out)⟩
  · rw [if_neg c4] at H
    have c4b0 : (t120 == 0) = false := beq_eq_false_iff_ne.mpr c4
    have c4b1 : (t120 != 0) = true := bne_iff_ne.mpr c4
    obtain rfl := Option.some.inj H
    go_enter Tryd.func29, Tryd.ntmps29
    go_wp2_with (first | ((with_reducible refine gate_callee (f := 50) rfl ?_); refine goesL_ (some 9) rfl rfl Tryd.func50 (by kernel_rfl) rfl #[.string a0] rfl (by (try simp only [List.map_toArray, List.map_cons, List.map_nil]); first | done | rfl | (simp only [List.length_drop, List.length_take]; rfl)) ?_; (with_reducible refine (instarref08_Words.calls k a0 t118 t119 t120 _ A2.out).mono ?_); rintro e w17 ⟨v121, rfl, ho0, hb⟩; refine ⟨_, rfl, ?_⟩; have n0_ := Aside0.mk (Kd.R_lower ho0 (below_size (by repeat (first | (with_reducible first | exact HB.out | apply below_alloc | apply pw_below_drewN | apply below_drew1) | exact HB.out)))); have n1_ := Aside0.mk (below_step (by repeat (first | (with_reducible first | exact HB.out | apply below_alloc | apply pw_below_drewN | apply below_drew1) | exact HB.out)) hb); clear HB; have HO122 := n0_; have HB := n1_; clear n0_ n1_; (try clear hb); (try clear hb2); (try clear hk); (try clear hi); (try clear ho0)) | ((with_reducible refine gate_callee (f := 51) rfl ?_); refine goesL_ (some 14) rfl rfl Tryd.func51 (by kernel_rfl) rfl #[.string a0] rfl (by (try simp only [List.map_toArray, List.map_cons, List.map_nil]); first | done | rfl | (simp only [List.length_drop, List.length_take]; rfl)) ?_; (with_reducible refine (instarref08_Own.calls a0 t123 _ A3.out).mono ?_); rintro e w' ⟨rfl, ⟨nd, rfl⟩⟩; refine ⟨_, rfl, ?_⟩))
    go_ret
    exact ⟨by first | rfl | (simp [errW_none, errW_some] <;> rfl) | (simp [*, errW_none, errW_some] <;> rfl), by repeat (first | (with_reducible first | exact HB.out | apply below_alloc | apply pw_below_drewN | apply below_drew1) | exact HB.out)⟩

/-- THE ONE PURE STATEMENT of instarref12_Name: yours. -/
def instarref12_Name.Pure : Prop := ∀ (a0 : ByteArray), a0.size ≤ 140737488351232 → ∃ k, instarref12_Name.f k a0 = some true
theorem instarref12_Name.walk (P : instarref12_Name.Pure) (a0 : ByteArray) (w : World) (w0 : a0.size ≤ 140737488351232) :
    Calls Tryd.prog 29 #[.string a0] w fun e w' => e = .returned (.bool true) ∧ Below w.heap.size w w' := by
  obtain ⟨k, h⟩ := P a0 w0
  refine (instarref12_Name.calls k a0 true w h).mono ?_
  rintro e w' ⟨rfl, hd⟩
  exact ⟨rfl, hd⟩

/-! ### instarref03_Column: function 38 -/
def instarref03_Column.f (a0 : Int) : Option (Bool) := if a0 ≥ 1 then (some (decide (a0 ≤ 4))) else (some false)
set_option maxHeartbeats 8000000 in
set_option maxRecDepth 100000 in
theorem instarref03_Column.calls (a0 : Int) (r : Bool) (w : World) (h : instarref03_Column.f a0 = some r) :
    Calls Tryd.prog 38 #[.int .i64 a0] w fun e w' => e = .returned (.bool r) ∧ Drawn0 w w' := by
  have H : (if a0 ≥ 1 then (some (decide (a0 ≤ 4))) else (some false)) = some r := h
  clear h
  by_cases c2 : a0 ≥ 1
  · rw [if_pos c2] at H
    have c2b0 : decide (1 ≤ a0) = true := decide_eq_true c2
    clear c2
    obtain rfl := Option.some.inj H
    go_enter Tryd.func38, Tryd.ntmps38
    go_wp2
    go_ret
    exact ⟨by first | rfl | (simp; done) | (simp [*]; done), by repeat (first | exact Drawn0.refl _ | apply Drawn0.step)⟩
  · rw [if_neg c2] at H
    have c2b0 : decide (1 ≤ a0) = false := decide_eq_false c2
    clear c2
    obtain rfl := Option.some.inj H
    go_enter Tryd.func38, Tryd.ntmps38
    go_wp2
    go_ret
    exact ⟨by first | rfl | (simp; done) | (simp [*]; done), by repeat (first | exact Drawn0.refl _ | apply Drawn0.step)⟩

/-! ### instarref12_column: function 34 -/
def instarref12_column.f (k : Nat) (a0_0 : Int) (a0_1 : ByteArray) (a0_2 : Int) : Option (Bool) := (instarref12_Name.f k a0_1).bind fun t127 => ((instarref03_Column.f a0_2).bind fun t128 => (if t127 = true then (if t128 = true then (some (decide (a0_0 ≥ 1))) else (some false)) else (some false)))
theorem instarref12_column.mono : ∀ a0 a1 a2 k, LeO (instarref12_column.f k a0 a1 a2) (instarref12_column.f (k + 1) a0 a1 a2) := by
  intro a0 a1 a2 k
  unfold instarref12_column.f
  repeat' first
      | (with_reducible exact instarref12_Name.mono _ _)
      | (with_reducible exact LeO.refl _)
      | (with_reducible exact LeO.none _)
      | (with_reducible refine LeO.ite ?_ ?_)
      | (with_reducible refine LeO.bind ?_ (fun _ => ?_))
      | exact instarref12_Name.mono _ _
      | exact LeO.none _
      | refine LeO.ite ?_ ?_
      | refine LeO.bind ?_ (fun _ => ?_)
set_option maxHeartbeats 8000000 in
set_option maxRecDepth 100000 in
theorem instarref12_column.calls (k : Nat) (a0_0 : Int) (a0_1 : ByteArray) (a0_2 : Int) (r : Bool) (w : World) (h : instarref12_column.f k a0_0 a0_1 a0_2 = some r) :
    Calls Tryd.prog 34 #[.agg #[.int .i64 a0_0, .string a0_1, .int .i64 a0_2]] w fun e w' => e = .returned (.bool r) ∧ Below w.heap.size w w' := by
  have hu25 := Tryd.underlying25
  have HB := Aside0.mk (Below.refl w.heap.size w)
  have H : ((instarref12_Name.f k a0_1).bind fun t127 => ((instarref03_Column.f a0_2).bind fun t128 => (if t127 = true then (if t128 = true then (some (decide (a0_0 ≥ 1))) else (some false)) else (some false)))) = some r := h
  clear h
  replace H := Option.bind_eq_some_iff.mp H
  obtain ⟨t127, A20, H⟩ := H
  replace H : ((instarref03_Column.f a0_2).bind fun t128 => (if t127 = true then (if t128 = true then (some (decide (a0_0 ≥ 1))) else (some false)) else (some false))) = some r := H
  have A2 := Aside0.mk A20
  clear A20
  replace H := Option.bind_eq_some_iff.mp H
  obtain ⟨t128, A30, H⟩ := H
  replace H : (if t127 = true then (if t128 = true then (some (decide (a0_0 ≥ 1))) else (some false)) else (some false)) = some r := H
  have A3 := Aside0.mk A30
  clear A30
  by_cases c4 : t127 = true
  · subst c4
    have H1 : (if t128 = true then (some (decide (a0_0 ≥ 1))) else (some false)) = some r := by rw [if_pos rfl] at H; exact H
    clear H
    have H := H1
    clear H1
    by_cases c5 : t128 = true
    · subst c5
      have H1 : (some (decide (a0_0 ≥ 1))) = some r := by rw [if_pos rfl] at H; exact H
      clear H
      have H := H1
      clear H1
      obtain rfl := Option.some.inj H
      go_enter Tryd.func34, Tryd.ntmps34
      go_wp2_with (first | ((with_reducible refine gate_dst (N := 1) rfl ?_); refine box_event ?hg (N := 1) ?hd (cs := #[.int .i64 a0_0, .string a0_1, .int .i64 a0_2]) (t := 25) ?hr ?_; (case hd => rfl); (case hg => rfl); (case hr => first | (go_simp; done) | (go_simp; rfl)); intro gb126 hg w6 hbox hb; have n0_ := Aside0.mk (below_step (by repeat (first | (with_reducible first | exact HB.out | apply below_alloc | apply pw_below_drewN | apply below_drew1) | exact HB.out)) hb); have n1_ := Aside0.mk (hbox); have n2_ := Aside0.mk ((by rw [hg]; exact (below_size (by repeat (first | (with_reducible first | exact HB.out | apply below_alloc | apply pw_below_drewN | apply below_drew1) | exact HB.out))) : w.heap.size ≤ gb126)); have n3_ := Aside0.mk ((by rw [hg]; exact (below_size (by repeat (first | (with_reducible first | exact HB.out | apply below_alloc | apply pw_below_drewN | apply below_drew1) | exact HB.out))) : w.heap.size ≤ gb126)); clear HB; have HB := n0_; have BK126 := n1_; have GW126 := n2_; have GE126 := n3_; clear n0_ n1_ n2_ n3_; clear hb hbox hg; have hcz7_0 : w6.cell? ⟨gb126, 0, none⟩ = some (.int .i64 a0_0) := (blk_cell BK126.out 0).trans rfl; have hcz7_1 : w6.cell? ⟨gb126, 1, none⟩ = some (.string a0_1) := (blk_cell BK126.out 1).trans rfl; have hcz7_2 : w6.cell? ⟨gb126, 2, none⟩ = some (.int .i64 a0_2) := (blk_cell BK126.out 2).trans rfl; have hfz7_0 := blk_frozen BK126.out 0; have hfz7_1 := blk_frozen BK126.out 1; have hfz7_2 := blk_frozen BK126.out 2) | ((with_reducible refine gate_callee (f := 29) rfl ?_); refine goesL_ (some 7) rfl rfl Tryd.func29 (by kernel_rfl) rfl #[.string a0_1] rfl (by (try simp only [List.map_toArray, List.map_cons, List.map_nil]); first | done | rfl | (simp only [List.length_drop, List.length_take]; rfl)) ?_; (with_reducible refine (instarref12_Name.calls k a0_1 true _ A2.out).mono ?_); rintro e w8 ⟨rfl, hb⟩; refine ⟨_, rfl, ?_⟩; have n0_ := Aside0.mk (blk_below (g := gb126) (o := .cells #[.int .i64 a0_0, .string a0_1, .int .i64 a0_2] 25 (0, 0)) (by (with_reducible repeat (first | refine blk_drewN ?_ _ | refine blk_drew ?_ | refine blk_alloc ?_ _)); exact BK126.out) hb); have n1_ := Aside0.mk (below_step (by repeat (first | (with_reducible first | exact HB.out | apply below_alloc | apply pw_below_drewN | apply below_drew1 | refine below_set ?_ GE126.out) | exact HB.out)) hb); clear BK126; clear HB; have BK126 := n0_; have HB := n1_; clear n0_ n1_; (try clear hb); (try clear hb2); (try clear hk); (try clear hi); have hcz9_0 : w8.cell? ⟨gb126, 0, none⟩ = some (.int .i64 a0_0) := (blk_cell BK126.out 0).trans rfl; have hcz9_1 : w8.cell? ⟨gb126, 1, none⟩ = some (.string a0_1) := (blk_cell BK126.out 1).trans rfl; have hcz9_2 : w8.cell? ⟨gb126, 2, none⟩ = some (.int .i64 a0_2) := (blk_cell BK126.out 2).trans rfl; have hfz9_0 := blk_frozen BK126.out 0; have hfz9_1 := blk_frozen BK126.out 1; have hfz9_2 := blk_frozen BK126.out 2) | ((with_reducible refine gate_callee (f := 38) rfl ?_); refine goesL_ (some 10) rfl rfl Tryd.func38 (by kernel_rfl) rfl #[.int .i64 a0_2] rfl (by (try simp only [List.map_toArray, List.map_cons, List.map_nil]); first | done | rfl | (simp only [List.length_drop, List.length_take]; rfl)) ?_; (with_reducible refine (instarref03_Column.calls a0_2 true _ A3.out).mono ?_); rintro e w' ⟨rfl, ⟨nd, rfl⟩⟩; refine ⟨_, rfl, ?_⟩))
      go_ret
      exact ⟨by first | rfl | (simp [errW_none, errW_some] <;> rfl) | (simp [*, errW_none, errW_some] <;> rfl), by repeat (first | (with_reducible first | exact HB.out | apply below_alloc | apply pw_below_drewN | apply below_drew1 | refine below_set ?_ GE126.out) | exact HB.out)⟩
    · replace c5 := Bool.eq_false_iff.mpr c5
      subst c5
      have H1 : (some false) = some r := by rw [if_neg (show ¬ (false = true) by decide)] at H; exact H
      clear H
      have H := H1
      clear H1
      obtain rfl := Option.some.inj H
      go_enter Tryd.func34, Tryd.ntmps34
      go_wp2_with (first | ((with_reducible refine gate_dst (N := 1) rfl ?_); refine box_event ?hg (N := 1) ?hd (cs := #[.int .i64 a0_0, .string a0_1, .int .i64 a0_2]) (t := 25) ?hr ?_; (case hd => rfl); (case hg => rfl); (case hr => first | (go_simp; done) | (go_simp; rfl)); intro gb126 hg w10 hbox hb; have n0_ := Aside0.mk (below_step (by repeat (first | (with_reducible first | exact HB.out | apply below_alloc | apply pw_below_drewN | apply below_drew1) | exact HB.out)) hb); have n1_ := Aside0.mk (hbox); have n2_ := Aside0.mk ((by rw [hg]; exact (below_size (by repeat (first | (with_reducible first | exact HB.out | apply below_alloc | apply pw_below_drewN | apply below_drew1) | exact HB.out))) : w.heap.size ≤ gb126)); have n3_ := Aside0.mk ((by rw [hg]; exact (below_size (by repeat (first | (with_reducible first | exact HB.out | apply below_alloc | apply pw_below_drewN | apply below_drew1) | exact HB.out))) : w.heap.size ≤ gb126)); clear HB; have HB := n0_; have BK126 := n1_; have GW126 := n2_; have GE126 := n3_; clear n0_ n1_ n2_ n3_; clear hb hbox hg; have hcz11_0 : w10.cell? ⟨gb126, 0, none⟩ = some (.int .i64 a0_0) := (blk_cell BK126.out 0).trans rfl; have hcz11_1 : w10.cell? ⟨gb126, 1, none⟩ = some (.string a0_1) := (blk_cell BK126.out 1).trans rfl; have hcz11_2 : w10.cell? ⟨gb126, 2, none⟩ = some (.int .i64 a0_2) := (blk_cell BK126.out 2).trans rfl; have hfz11_0 := blk_frozen BK126.out 0; have hfz11_1 := blk_frozen BK126.out 1; have hfz11_2 := blk_frozen BK126.out 2) | ((with_reducible refine gate_callee (f := 29) rfl ?_); refine goesL_ (some 7) rfl rfl Tryd.func29 (by kernel_rfl) rfl #[.string a0_1] rfl (by (try simp only [List.map_toArray, List.map_cons, List.map_nil]); first | done | rfl | (simp only [List.length_drop, List.length_take]; rfl)) ?_; (with_reducible refine (instarref12_Name.calls k a0_1 true _ A2.out).mono ?_); rintro e w12 ⟨rfl, hb⟩; refine ⟨_, rfl, ?_⟩; have n0_ := Aside0.mk (blk_below (g := gb126) (o := .cells #[.int .i64 a0_0, .string a0_1, .int .i64 a0_2] 25 (0, 0)) (by (with_reducible repeat (first | refine blk_drewN ?_ _ | refine blk_drew ?_ | refine blk_alloc ?_ _)); exact BK126.out) hb); have n1_ := Aside0.mk (below_step (by repeat (first | (with_reducible first | exact HB.out | apply below_alloc | apply pw_below_drewN | apply below_drew1 | refine below_set ?_ GE126.out) | exact HB.out)) hb); clear BK126; clear HB; have BK126 := n0_; have HB := n1_; clear n0_ n1_; (try clear hb); (try clear hb2); (try clear hk); (try clear hi); have hcz13_0 : w12.cell? ⟨gb126, 0, none⟩ = some (.int .i64 a0_0) := (blk_cell BK126.out 0).trans rfl; have hcz13_1 : w12.cell? ⟨gb126, 1, none⟩ = some (.string a0_1) := (blk_cell BK126.out 1).trans rfl; have hcz13_2 : w12.cell? ⟨gb126, 2, none⟩ = some (.int .i64 a0_2) := (blk_cell BK126.out 2).trans rfl; have hfz13_0 := blk_frozen BK126.out 0; have hfz13_1 := blk_frozen BK126.out 1; have hfz13_2 := blk_frozen BK126.out 2) | ((with_reducible refine gate_callee (f := 38) rfl ?_); refine goesL_ (some 10) rfl rfl Tryd.func38 (by kernel_rfl) rfl #[.int .i64 a0_2] rfl (by (try simp only [List.map_toArray, List.map_cons, List.map_nil]); first | done | rfl | (simp only [List.length_drop, List.length_take]; rfl)) ?_; (with_reducible refine (instarref03_Column.calls a0_2 false _ A3.out).mono ?_); rintro e w' ⟨rfl, ⟨nd, rfl⟩⟩; refine ⟨_, rfl, ?_⟩))
      go_ret
      exact ⟨by first | rfl | (simp [errW_none, errW_some] <;> rfl) | (simp [*, errW_none, errW_some] <;> rfl), by repeat (first | (with_reducible first | exact HB.out | apply below_alloc | apply pw_below_drewN | apply below_drew1 | refine below_set ?_ GE126.out) | exact HB.out)⟩
  · replace c4 := Bool.eq_false_iff.mpr c4
    subst c4
    have H1 : (some false) = some r := by rw [if_neg (show ¬ (false = true) by decide)] at H; exact H
    clear H
    have H := H1
    clear H1
    obtain rfl := Option.some.inj H
    go_enter Tryd.func34, Tryd.ntmps34
    go_wp2_with (first | ((with_reducible refine gate_dst (N := 1) rfl ?_); refine box_event ?hg (N := 1) ?hd (cs := #[.int .i64 a0_0, .string a0_1, .int .i64 a0_2]) (t := 25) ?hr ?_; (case hd => rfl); (case hg => rfl); (case hr => first | (go_simp; done) | (go_simp; rfl)); intro gb126 hg w14 hbox hb; have n0_ := Aside0.mk (below_step (by repeat (first | (with_reducible first | exact HB.out | apply below_alloc | apply pw_below_drewN | apply below_drew1) | exact HB.out)) hb); have n1_ := Aside0.mk (hbox); have n2_ := Aside0.mk ((by rw [hg]; exact (below_size (by repeat (first | (with_reducible first | exact HB.out | apply below_alloc | apply pw_below_drewN | apply below_drew1) | exact HB.out))) : w.heap.size ≤ gb126)); have n3_ := Aside0.mk ((by rw [hg]; exact (below_size (by repeat (first | (with_reducible first | exact HB.out | apply below_alloc | apply pw_below_drewN | apply below_drew1) | exact HB.out))) : w.heap.size ≤ gb126)); clear HB; have HB := n0_; have BK126 := n1_; have GW126 := n2_; have GE126 := n3_; clear n0_ n1_ n2_ n3_; clear hb hbox hg; have hcz15_0 : w14.cell? ⟨gb126, 0, none⟩ = some (.int .i64 a0_0) := (blk_cell BK126.out 0).trans rfl; have hcz15_1 : w14.cell? ⟨gb126, 1, none⟩ = some (.string a0_1) := (blk_cell BK126.out 1).trans rfl; have hcz15_2 : w14.cell? ⟨gb126, 2, none⟩ = some (.int .i64 a0_2) := (blk_cell BK126.out 2).trans rfl; have hfz15_0 := blk_frozen BK126.out 0; have hfz15_1 := blk_frozen BK126.out 1; have hfz15_2 := blk_frozen BK126.out 2) | ((with_reducible refine gate_callee (f := 29) rfl ?_); refine goesL_ (some 7) rfl rfl Tryd.func29 (by kernel_rfl) rfl #[.string a0_1] rfl (by (try simp only [List.map_toArray, List.map_cons, List.map_nil]); first | done | rfl | (simp only [List.length_drop, List.length_take]; rfl)) ?_; (with_reducible refine (instarref12_Name.calls k a0_1 false _ A2.out).mono ?_); rintro e w16 ⟨rfl, hb⟩; refine ⟨_, rfl, ?_⟩; have n0_ := Aside0.mk (blk_below (g := gb126) (o := .cells #[.int .i64 a0_0, .string a0_1, .int .i64 a0_2] 25 (0, 0)) (by (with_reducible repeat (first | refine blk_drewN ?_ _ | refine blk_drew ?_ | refine blk_alloc ?_ _)); exact BK126.out) hb); have n1_ := Aside0.mk (below_step (by repeat (first | (with_reducible first | exact HB.out | apply below_alloc | apply pw_below_drewN | apply below_drew1 | refine below_set ?_ GE126.out) | exact HB.out)) hb); clear BK126; clear HB; have BK126 := n0_; have HB := n1_; clear n0_ n1_; (try clear hb); (try clear hb2); (try clear hk); (try clear hi); have hcz17_0 : w16.cell? ⟨gb126, 0, none⟩ = some (.int .i64 a0_0) := (blk_cell BK126.out 0).trans rfl; have hcz17_1 : w16.cell? ⟨gb126, 1, none⟩ = some (.string a0_1) := (blk_cell BK126.out 1).trans rfl; have hcz17_2 : w16.cell? ⟨gb126, 2, none⟩ = some (.int .i64 a0_2) := (blk_cell BK126.out 2).trans rfl; have hfz17_0 := blk_frozen BK126.out 0; have hfz17_1 := blk_frozen BK126.out 1; have hfz17_2 := blk_frozen BK126.out 2) | ((with_reducible refine gate_callee (f := 38) rfl ?_); refine goesL_ (some 10) rfl rfl Tryd.func38 (by kernel_rfl) rfl #[.int .i64 a0_2] rfl (by (try simp only [List.map_toArray, List.map_cons, List.map_nil]); first | done | rfl | (simp only [List.length_drop, List.length_take]; rfl)) ?_; (with_reducible refine (instarref03_Column.calls a0_2 t128 _ A3.out).mono ?_); rintro e w' ⟨rfl, ⟨nd, rfl⟩⟩; refine ⟨_, rfl, ?_⟩))
    go_ret
    exact ⟨by first | rfl | (simp [errW_none, errW_some] <;> rfl) | (simp [*, errW_none, errW_some] <;> rfl), by repeat (first | (with_reducible first | exact HB.out | apply below_alloc | apply pw_below_drewN | apply below_drew1 | refine below_set ?_ GE126.out) | exact HB.out)⟩

/-! ### instarref12_Add: function 9 -/
def instarref12_Add.l0 : Nat → List (S25) → Bool → Int → Int → ByteArray → Int → Option ((List (S25)) × Int)
  | 0, _, _, _, _, _, _ => none
  | k + 1, x0, x6, x7, x130000, x130001, x130002 => if x7 < (x0.length : Int) then (if x6 = true then (if 0 ≤ x7 then (instarref12_Add.l0 k x0 (((rd_T25 x0 x7).f0) != x130000) (wrap64 (x7 + 1)) x130000 x130001 x130002) else (none)) else (instarref12_Add.l0 k x0 false (wrap64 (x7 + 1)) x130000 x130001 x130002)) else (if x6 = true then ((instarref12_Find.f k x0 x130001).bind fun t132 => (if t132 ≥ 0 then (some (([] : List (S25)), 122)) else (if (x0.length : Int) ≥ 12 then (some (([] : List (S25)), 62)) else ((some (([] : List (S25)) : List (S25))).bind fun y133 => (if y133.length + x0.length < 4398046511104 then ((some (y133 ++ x0 : List (S25))).bind fun y136 => (if y136.length < 4398046511104 then (some ((y136 ++ [(⟨x130000, x130001, x130002⟩ : S25)]), 0)) else (none))) else (none)))))) else (some (([] : List (S25)), 1)))
def instarref12_Add.f (k : Nat) (l0 : List (S25)) (a1_0 : Int) (a1_1 : ByteArray) (a1_2 : Int) : Option ((List (S25)) × Int) := (instarref12_column.f k a1_0 a1_1 a1_2).bind fun t130 => (instarref12_Add.l0 k l0 t130 0 a1_0 a1_1 a1_2)
theorem instarref12_Add.mono_l : ∀ k, (∀ y0 y1 y2 y3 y4 y5, LeO (instarref12_Add.l0 k y0 y1 y2 y3 y4 y5) (instarref12_Add.l0 (k + 1) y0 y1 y2 y3 y4 y5))
  | 0 => fun _ _ _ _ _ _ r h => by simp [instarref12_Add.l0] at h
  | k + 1 => by
    have ih0 := instarref12_Add.mono_l k
    · intro y0 y1 y2 y3 y4 y5
      unfold instarref12_Add.l0
      repeat' first
      | (with_reducible exact ih0 _ _ _ _ _ _)
      | (with_reducible exact instarref12_Find.mono _ _ _)
      | (with_reducible exact instarref12_column.mono _ _ _ _)
      | (with_reducible exact LeO.refl _)
      | (with_reducible exact LeO.none _)
      | (with_reducible refine LeO.ite ?_ ?_)
      | (with_reducible refine LeO.bind ?_ (fun _ => ?_))
      | exact ih0 _ _ _ _ _ _
      | exact instarref12_Find.mono _ _ _
      | exact instarref12_column.mono _ _ _ _
      | exact LeO.none _
      | refine LeO.ite ?_ ?_
      | refine LeO.bind ?_ (fun _ => ?_)
theorem instarref12_Add.mono : ∀ a0 a1 a2 a3 k, LeO (instarref12_Add.f k a0 a1 a2 a3) (instarref12_Add.f (k + 1) a0 a1 a2 a3) := by
  intro a0 a1 a2 a3 k
  have ih0 := instarref12_Add.mono_l k
  unfold instarref12_Add.f
  repeat' first
      | (with_reducible exact ih0 _ _ _ _ _ _)
      | (with_reducible exact instarref12_Find.mono _ _ _)
      | (with_reducible exact instarref12_column.mono _ _ _ _)
      | (with_reducible exact LeO.refl _)
      | (with_reducible exact LeO.none _)
      | (with_reducible refine LeO.ite ?_ ?_)
      | (with_reducible refine LeO.bind ?_ (fun _ => ?_))
      | exact ih0 _ _ _ _ _ _
      | exact instarref12_Find.mono _ _ _
      | exact instarref12_column.mono _ _ _ _
      | exact LeO.none _
      | refine LeO.ite ?_ ?_
      | refine LeO.bind ?_ (fun _ => ?_)
set_option maxHeartbeats 8000000 in
set_option maxRecDepth 100000 in
theorem instarref12_Add.calls (k : Nat) (A0 : Option Addr) (c0 : Nat) (l0 : List (S25)) (a1_0 : Int) (a1_1 : ByteArray) (a1_2 : Int) (r1 : List (S25)) (r2 : Int) (w : World) (hr0 : Kd.C k25 w A0 l0.length l0) (hc0 : l0.length ≤ c0) (h : instarref12_Add.f k l0 a1_0 a1_1 a1_2 = some (r1, r2)) :
    Calls Tryd.prog 9 #[.slice A0 l0.length c0, .agg #[.int .i64 a1_0, .string a1_1, .int .i64 a1_2]] w fun e w' => ∃ v0_ : Value, e = .returned (.tuple #[v0_, .int .i64 r2]) ∧ Kd.R k25 25 w' w.heap.size (fun _ => True) v0_ r1 ∧ Below w.heap.size w w' := by
  have hu25 := Tryd.underlying25
  have HR0 := Aside0.mk hr0
  have HC0 := Aside0.mk hc0
  clear hr0 hc0
  have HB := Aside0.mk (Below.refl w.heap.size w)
  have H : ((instarref12_column.f k a1_0 a1_1 a1_2).bind fun t130 => (instarref12_Add.l0 k l0 t130 0 a1_0 a1_1 a1_2)) = some (r1, r2) := h
  clear h
  replace H := Option.bind_eq_some_iff.mp H
  obtain ⟨t130, A30, H⟩ := H
  replace H : (instarref12_Add.l0 k l0 t130 0 a1_0 a1_1 a1_2) = some (r1, r2) := H
  have A3 := Aside0.mk A30
  clear A30
  have H' := Aside0.mk H
  clear H
  go_enter Tryd.func9, Tryd.ntmps9
  go_wp2_with (first | ((with_reducible refine gate_dst (N := 3) rfl ?_); refine box_event ?hg (N := 3) ?hd (cs := #[.int .i64 a1_0, .string a1_1, .int .i64 a1_2]) (t := 25) ?hr ?_; (case hd => rfl); (case hg => rfl); (case hr => first | (go_simp; done) | (go_simp; rfl)); intro gb129 hg w4 hbox hb; have n0_ := Aside0.mk (below_step (by repeat (first | (with_reducible first | exact HB.out | apply below_alloc | apply pw_below_drewN | apply below_drew1) | exact HB.out)) hb); have n1_ := Aside0.mk (hbox); have n2_ := Aside0.mk ((by rw [hg]; exact (below_size (by repeat (first | (with_reducible first | exact HB.out | apply below_alloc | apply pw_below_drewN | apply below_drew1) | exact HB.out))) : w.heap.size ≤ gb129)); have n3_ := Aside0.mk ((by rw [hg]; exact (below_size (by repeat (first | (with_reducible first | exact HB.out | apply below_alloc | apply pw_below_drewN | apply below_drew1) | exact HB.out))) : w.heap.size ≤ gb129)); clear HB; have HB := n0_; have BK129 := n1_; have GW129 := n2_; have GE129 := n3_; clear n0_ n1_ n2_ n3_; clear hb hbox hg; have hcz5_0 : w4.cell? ⟨gb129, 0, none⟩ = some (.int .i64 a1_0) := (blk_cell BK129.out 0).trans rfl; have hcz5_1 : w4.cell? ⟨gb129, 1, none⟩ = some (.string a1_1) := (blk_cell BK129.out 1).trans rfl; have hcz5_2 : w4.cell? ⟨gb129, 2, none⟩ = some (.int .i64 a1_2) := (blk_cell BK129.out 2).trans rfl; have hfz5_0 := blk_frozen BK129.out 0; have hfz5_1 := blk_frozen BK129.out 1; have hfz5_2 := blk_frozen BK129.out 2) | (go_at_call 34; (with_reducible refine (instarref12_column.calls k a1_0 a1_1 a1_2 t130 _ A3.out).mono ?_); rintro e w6 ⟨rfl, hb⟩; have n0_ := Aside0.mk (blk_below (g := gb129) (o := .cells #[.int .i64 a1_0, .string a1_1, .int .i64 a1_2] 25 (0, 0)) (by (with_reducible repeat (first | refine blk_drewN ?_ _ | refine blk_drew ?_ | refine blk_alloc ?_ _)); exact BK129.out) hb); have n1_ := Aside0.mk (below_step (by repeat (first | (with_reducible first | exact HB.out | apply below_alloc | apply pw_below_drewN | apply below_drew1 | refine below_set ?_ GE129.out) | exact HB.out)) hb); clear BK129; clear HB; have BK129 := n0_; have HB := n1_; clear n0_ n1_; (try clear hb); (try clear hb2); (try clear hk); (try clear hi)))
  repeat (go_quiet (first | ((with_reducible refine gate_dst (N := 3) rfl ?_); refine box_event ?hg (N := 3) ?hd (cs := #[.int .i64 a1_0, .string a1_1, .int .i64 a1_2]) (t := 25) ?hr ?_; (case hd => rfl); (case hg => rfl); (case hr => first | (go_simp; done) | (go_simp; rfl)); intro gb129 hg w4 hbox hb; have n0_ := Aside0.mk (below_step (by repeat (first | (with_reducible first | exact HB.out | apply below_alloc | apply pw_below_drewN | apply below_drew1) | exact HB.out)) hb); have n1_ := Aside0.mk (hbox); have n2_ := Aside0.mk ((by rw [hg]; exact (below_size (by repeat (first | (with_reducible first | exact HB.out | apply below_alloc | apply pw_below_drewN | apply below_drew1) | exact HB.out))) : w.heap.size ≤ gb129)); have n3_ := Aside0.mk ((by rw [hg]; exact (below_size (by repeat (first | (with_reducible first | exact HB.out | apply below_alloc | apply pw_below_drewN | apply below_drew1) | exact HB.out))) : w.heap.size ≤ gb129)); clear HB; have HB := n0_; have BK129 := n1_; have GW129 := n2_; have GE129 := n3_; clear n0_ n1_ n2_ n3_; clear hb hbox hg; have hcz5_0 : w4.cell? ⟨gb129, 0, none⟩ = some (.int .i64 a1_0) := (blk_cell BK129.out 0).trans rfl; have hcz5_1 : w4.cell? ⟨gb129, 1, none⟩ = some (.string a1_1) := (blk_cell BK129.out 1).trans rfl; have hcz5_2 : w4.cell? ⟨gb129, 2, none⟩ = some (.int .i64 a1_2) := (blk_cell BK129.out 2).trans rfl; have hfz5_0 := blk_frozen BK129.out 0; have hfz5_1 := blk_frozen BK129.out 1; have hfz5_2 := blk_frozen BK129.out 2) | (go_at_call 34; (with_reducible refine (instarref12_column.calls k a1_0 a1_1 a1_2 t130 _ A3.out).mono ?_); rintro e w6 ⟨rfl, hb⟩; have n0_ := Aside0.mk (blk_below (g := gb129) (o := .cells #[.int .i64 a1_0, .string a1_1, .int .i64 a1_2] 25 (0, 0)) (by (with_reducible repeat (first | refine blk_drewN ?_ _ | refine blk_drew ?_ | refine blk_alloc ?_ _)); exact BK129.out) hb); have n1_ := Aside0.mk (below_step (by repeat (first | (with_reducible first | exact HB.out | apply below_alloc | apply pw_below_drewN | apply below_drew1 | refine below_set ?_ GE129.out) | exact HB.out)) hb); clear BK129; clear HB; have BK129 := n0_; have HB := n1_; clear n0_ n1_; (try clear hb); (try clear hb2); (try clear hk); (try clear hi))); try go_wp2_with (first | ((with_reducible refine gate_dst (N := 3) rfl ?_); refine box_event ?hg (N := 3) ?hd (cs := #[.int .i64 a1_0, .string a1_1, .int .i64 a1_2]) (t := 25) ?hr ?_; (case hd => rfl); (case hg => rfl); (case hr => first | (go_simp; done) | (go_simp; rfl)); intro gb129 hg w4 hbox hb; have n0_ := Aside0.mk (below_step (by repeat (first | (with_reducible first | exact HB.out | apply below_alloc | apply pw_below_drewN | apply below_drew1) | exact HB.out)) hb); have n1_ := Aside0.mk (hbox); have n2_ := Aside0.mk ((by rw [hg]; exact (below_size (by repeat (first | (with_reducible first | exact HB.out | apply below_alloc | apply pw_below_drewN | apply below_drew1) | exact HB.out))) : w.heap.size ≤ gb129)); have n3_ := Aside0.mk ((by rw [hg]; exact (below_size (by repeat (first | (with_reducible first | exact HB.out | apply below_alloc | apply pw_below_drewN | apply below_drew1) | exact HB.out))) : w.heap.size ≤ gb129)); clear HB; have HB := n0_; have BK129 := n1_; have GW129 := n2_; have GE129 := n3_; clear n0_ n1_ n2_ n3_; clear hb hbox hg; have hcz5_0 : w4.cell? ⟨gb129, 0, none⟩ = some (.int .i64 a1_0) := (blk_cell BK129.out 0).trans rfl; have hcz5_1 : w4.cell? ⟨gb129, 1, none⟩ = some (.string a1_1) := (blk_cell BK129.out 1).trans rfl; have hcz5_2 : w4.cell? ⟨gb129, 2, none⟩ = some (.int .i64 a1_2) := (blk_cell BK129.out 2).trans rfl; have hfz5_0 := blk_frozen BK129.out 0; have hfz5_1 := blk_frozen BK129.out 1; have hfz5_2 := blk_frozen BK129.out 2) | (go_at_call 34; (with_reducible refine (instarref12_column.calls k a1_0 a1_1 a1_2 t130 _ A3.out).mono ?_); rintro e w6 ⟨rfl, hb⟩; have n0_ := Aside0.mk (blk_below (g := gb129) (o := .cells #[.int .i64 a1_0, .string a1_1, .int .i64 a1_2] 25 (0, 0)) (by (with_reducible repeat (first | refine blk_drewN ?_ _ | refine blk_drew ?_ | refine blk_alloc ?_ _)); exact BK129.out) hb); have n1_ := Aside0.mk (below_step (by repeat (first | (with_reducible first | exact HB.out | apply below_alloc | apply pw_below_drewN | apply below_drew1 | refine below_set ?_ GE129.out) | exact HB.out)) hb); clear BK129; clear HB; have BK129 := n0_; have HB := n1_; clear n0_ n1_; (try clear hb); (try clear hb2); (try clear hk); (try clear hi))))
  go_loopg [6, 7] k (fun kq v6 v7 w' => ∃ (x6_1 : Bool) (x7_1 : Int), v6 = .bool x6_1 ∧ v7 = .int .i64 x7_1 ∧ Aside0 (instarref12_Add.l0 kq l0 x6_1 x7_1 a1_0 a1_1 a1_2 = some (r1, r2)) ∧ Aside0 (kq ≤ k) ∧ Aside0 (w'.heap[gb129]? = some (.cells #[.int .i64 a1_0, .string a1_1, .int .i64 a1_2] 25 (0, 0))) ∧ Aside0 (Below w.heap.size w w'))
  case atStart => exact ⟨(t130), (0), (by first | rfl | (simp; done) | (simp [*]; done)), (by first | rfl | (simp; done) | (simp [*]; done)), H', ⟨Nat.le_refl _⟩, ⟨by (with_reducible repeat (first | refine blk_drewN ?_ _ | refine blk_drew ?_ | refine blk_alloc ?_ _)); exact BK129.out⟩, ⟨by repeat (first | (with_reducible first | exact HB.out | apply below_alloc | apply pw_below_drewN | apply below_drew1 | refine below_set ?_ GE129.out) | exact HB.out)⟩⟩
  case round =>
    clear H'
    try clear p2
    try clear hcz5_0
    try clear hcz5_1
    try clear hcz5_2
    try clear hfz5_0
    try clear hfz5_1
    try clear hfz5_2
    obtain ⟨x6_1, x7_1, rfl, rfl, HA, HK1, BK129, HB⟩ := hrel
    cases gk with
    | zero => exact absurd HA.out (by simp [instarref12_Add.l0])
    | succ k1 =>
      have H := HA.out
      clear HA
      simp only [instarref12_Add.l0] at H
      by_cases c7 : x7_1 < (l0.length : Int)
      · rw [if_pos c7] at H
        have c7b0 : decide (x7_1 < (l0.length : Int)) = true := decide_eq_true c7
        clear c7
        by_cases c8 : x6_1 = true
        · subst c8
          have H1 : (if 0 ≤ x7_1 then (instarref12_Add.l0 k1 l0 (((rd_T25 l0 x7_1).f0) != a1_0) (wrap64 (x7_1 + 1)) a1_0 a1_1 a1_2) else (none)) = some (r1, r2) := by rw [if_pos rfl] at H; exact H
          clear H
          have H := H1
          clear H1
          by_cases c9 : 0 ≤ x7_1
          · rw [if_pos c9] at H
            have c9b0 : decide (0 ≤ x7_1) = true := decide_eq_true c9
            clear c9
            have H' := Aside0.mk H
            clear H
            have p131 : 0 ≤ (x7_1 : Int) := of_decide_eq_true (by first | (with_reducible assumption) | assumption)
            have q131 : x7_1 < (l0.length : Int) := of_decide_eq_true (by first | (with_reducible assumption) | assumption)
            obtain ⟨ad131, e131, hx131_0, hx131_1, hx131_2⟩ := at_T25 HR0.out x7_1 p131 q131
            cases e131
            replace hx131_0 := (HB.out.cell (World.block_lt_of_cell? w _ hx131_0)).trans hx131_0
            replace hx131_1 := (HB.out.cell (World.block_lt_of_cell? w _ hx131_1)).trans hx131_1
            replace hx131_2 := (HB.out.cell (World.block_lt_of_cell? w _ hx131_2)).trans hx131_2
            replace p131 := eq_true p131
            replace q131 := eq_true q131
            have hcz10_0 : wr.cell? ⟨gb129, 0, none⟩ = some (.int .i64 a1_0) := (blk_cell BK129.out 0).trans rfl
            have hcz10_1 : wr.cell? ⟨gb129, 1, none⟩ = some (.string a1_1) := (blk_cell BK129.out 1).trans rfl
            have hcz10_2 : wr.cell? ⟨gb129, 2, none⟩ = some (.int .i64 a1_2) := (blk_cell BK129.out 2).trans rfl
            have hfz10_0 := blk_frozen BK129.out 0
            have hfz10_1 := blk_frozen BK129.out 1
            have hfz10_2 := blk_frozen BK129.out 2
            go_wp2
            repeat (go_quiet (fail); try go_wp2)
            go_roundg k1
            case measure => have := HK1.out; omega
            case rel => exact ⟨((((rd_T25 l0 x7_1).f0) != a1_0)), (wrap64 (x7_1 + 1)), (by first | rfl | (simp; done) | (simp [*]; done)), (by first | rfl | (simp; done) | (simp [*]; done)), H', ⟨by have := HK1.out; omega⟩, ⟨by (with_reducible repeat (first | refine blk_drewN ?_ _ | refine blk_drew ?_ | refine blk_alloc ?_ _)); exact BK129.out⟩, ⟨by repeat (first | (with_reducible first | exact HB.out | apply below_alloc | apply pw_below_drewN | apply below_drew1 | refine below_set ?_ GE129.out) | exact HB.out)⟩⟩
          · rw [if_neg c9] at H
            exact absurd H (by simp)
        · replace c8 := Bool.eq_false_iff.mpr c8
          subst c8
          have H1 : (instarref12_Add.l0 k1 l0 false (wrap64 (x7_1 + 1)) a1_0 a1_1 a1_2) = some (r1, r2) := by rw [if_neg (show ¬ (false = true) by decide)] at H; exact H
          clear H
          have H := H1
          clear H1
          have H' := Aside0.mk H
          clear H
          go_wp2
          repeat (go_quiet (fail); try go_wp2)
          go_roundg k1
          case measure => have := HK1.out; omega
          case rel => exact ⟨(false), (wrap64 (x7_1 + 1)), (by first | rfl | (simp; done) | (simp [*]; done)), (by first | rfl | (simp; done) | (simp [*]; done)), H', ⟨by have := HK1.out; omega⟩, ⟨by (with_reducible repeat (first | refine blk_drewN ?_ _ | refine blk_drew ?_ | refine blk_alloc ?_ _)); exact BK129.out⟩, ⟨by repeat (first | (with_reducible first | exact HB.out | apply below_alloc | apply pw_below_drewN | apply below_drew1 | refine below_set ?_ GE129.out) | exact HB.out)⟩⟩
      · rw [if_neg c7] at H
        have c7b0 : decide (x7_1 < (l0.length : Int)) = false := decide_eq_false c7
        clear c7
        by_cases c11 : x6_1 = true
        · subst c11
          have H1 : ((instarref12_Find.f k1 l0 a1_1).bind fun t132 => (if t132 ≥ 0 then (some (([] : List (S25)), 122)) else (if (l0.length : Int) ≥ 12 then (some (([] : List (S25)), 62)) else ((some (([] : List (S25)) : List (S25))).bind fun y133 => (if y133.length + l0.length < 4398046511104 then ((some (y133 ++ l0 : List (S25))).bind fun y136 => (if y136.length < 4398046511104 then (some ((y136 ++ [(⟨a1_0, a1_1, a1_2⟩ : S25)]), 0)) else (none))) else (none)))))) = some (r1, r2) := by rw [if_pos rfl] at H; exact H
          clear H
          have H := H1
          clear H1
          replace H := Option.bind_eq_some_iff.mp H
          obtain ⟨t132, A120, H⟩ := H
          replace H : (if t132 ≥ 0 then (some (([] : List (S25)), 122)) else (if (l0.length : Int) ≥ 12 then (some (([] : List (S25)), 62)) else ((some (([] : List (S25)) : List (S25))).bind fun y133 => (if y133.length + l0.length < 4398046511104 then ((some (y133 ++ l0 : List (S25))).bind fun y136 => (if y136.length < 4398046511104 then (some ((y136 ++ [(⟨a1_0, a1_1, a1_2⟩ : S25)]), 0)) else (none))) else (none))))) = some (r1, r2) := H
          have A12 := Aside0.mk A120
          clear A120
          by_cases c13 : t132 ≥ 0
          · rw [if_pos c13] at H
            have c13b0 : decide (0 ≤ t132) = true := decide_eq_true c13
            clear c13
            simp only [Option.some.injEq, Prod.mk.injEq] at H
            obtain ⟨rfl, rfl⟩ := H
            have hcz14_0 : wr.cell? ⟨gb129, 0, none⟩ = some (.int .i64 a1_0) := (blk_cell BK129.out 0).trans rfl
            have hcz14_1 : wr.cell? ⟨gb129, 1, none⟩ = some (.string a1_1) := (blk_cell BK129.out 1).trans rfl
            have hcz14_2 : wr.cell? ⟨gb129, 2, none⟩ = some (.int .i64 a1_2) := (blk_cell BK129.out 2).trans rfl
            have hfz14_0 := blk_frozen BK129.out 0
            have hfz14_1 := blk_frozen BK129.out 1
            have hfz14_2 := blk_frozen BK129.out 2
            go_wp2_with (first | (go_at_call 19; (with_reducible refine (instarref12_Find.calls k1 _ _ l0 a1_1 t132 _ ?side1 ?side2 A12.out).mono ?_); (case side1 => repeat (first | exact (Kd.C_below HR0.out HB.out) | (with_reducible refine Kd.C_alloc ?_ _) | (with_reducible refine Kd.C_drewN ?_ _) | (with_reducible refine Kd.C_drew ?_))); (case side2 => exact HC0.out); rintro e w' ⟨rfl, ⟨nd, rfl⟩⟩; (try first | exact ⟨rfl, _, World.drewN_drewN _ _ _⟩ | exact ⟨rfl, _, Eq.trans (World.drewN_drewN _ _ _) (congrArg (World.drewN _) (Nat.add_assoc _ _ _))⟩)))
            repeat (go_quiet (first | (go_at_call 19; (with_reducible refine (instarref12_Find.calls k1 _ _ l0 a1_1 t132 _ ?side1 ?side2 A12.out).mono ?_); (case side1 => repeat (first | exact (Kd.C_below HR0.out HB.out) | (with_reducible refine Kd.C_alloc ?_ _) | (with_reducible refine Kd.C_drewN ?_ _) | (with_reducible refine Kd.C_drew ?_))); (case side2 => exact HC0.out); rintro e w' ⟨rfl, ⟨nd, rfl⟩⟩; (try first | exact ⟨rfl, _, World.drewN_drewN _ _ _⟩ | exact ⟨rfl, _, Eq.trans (World.drewN_drewN _ _ _) (congrArg (World.drewN _) (Nat.add_assoc _ _ _))⟩))); try go_wp2_with (first | (go_at_call 19; (with_reducible refine (instarref12_Find.calls k1 _ _ l0 a1_1 t132 _ ?side1 ?side2 A12.out).mono ?_); (case side1 => repeat (first | exact (Kd.C_below HR0.out HB.out) | (with_reducible refine Kd.C_alloc ?_ _) | (with_reducible refine Kd.C_drewN ?_ _) | (with_reducible refine Kd.C_drew ?_))); (case side2 => exact HC0.out); rintro e w' ⟨rfl, ⟨nd, rfl⟩⟩; (try first | exact ⟨rfl, _, World.drewN_drewN _ _ _⟩ | exact ⟨rfl, _, Eq.trans (World.drewN_drewN _ _ _) (congrArg (World.drewN _) (Nat.add_assoc _ _ _))⟩))))
            go_ret2
            exact ⟨_, by first | rfl | (simp [errW_none, errW_some] <;> rfl) | (simp [*, errW_none, errW_some] <;> rfl), by first | exact Kd.R_nil _ _ _ _ _ | exact Kd.N_nil _ _ _ _ _ | exact Kd.V_nil _ _ _ _ _ | exact Kd.Q_nil _ _ _ _ _ | exact Kd.S_nil _ _ _ _ _, by repeat (first | (with_reducible first | exact HB.out | apply below_alloc | apply pw_below_drewN | apply below_drew1 | refine below_set ?_ GE129.out) | exact HB.out)⟩
          · rw [if_neg c13] at H
            have c13b0 : decide (0 ≤ t132) = false := decide_eq_false c13
            clear c13
            by_cases c15 : (l0.length : Int) ≥ 12
            · rw [if_pos c15] at H
              have c15b0 : decide (12 ≤ (l0.length : Int)) = true := decide_eq_true c15
              have c15b1 : decide (12 ≤ l0.length) = true := decide_eq_true (by omega)
              clear c15
              simp only [Option.some.injEq, Prod.mk.injEq] at H
              obtain ⟨rfl, rfl⟩ := H
              have hcz16_0 : wr.cell? ⟨gb129, 0, none⟩ = some (.int .i64 a1_0) := (blk_cell BK129.out 0).trans rfl
              have hcz16_1 : wr.cell? ⟨gb129, 1, none⟩ = some (.string a1_1) := (blk_cell BK129.out 1).trans rfl
              have hcz16_2 : wr.cell? ⟨gb129, 2, none⟩ = some (.int .i64 a1_2) := (blk_cell BK129.out 2).trans rfl
              have hfz16_0 := blk_frozen BK129.out 0
              have hfz16_1 := blk_frozen BK129.out 1
              have hfz16_2 := blk_frozen BK129.out 2
              go_wp2_with (first | (go_at_call 19; (with_reducible refine (instarref12_Find.calls k1 _ _ l0 a1_1 t132 _ ?side1 ?side2 A12.out).mono ?_); (case side1 => repeat (first | exact (Kd.C_below HR0.out HB.out) | (with_reducible refine Kd.C_alloc ?_ _) | (with_reducible refine Kd.C_drewN ?_ _) | (with_reducible refine Kd.C_drew ?_))); (case side2 => exact HC0.out); rintro e w' ⟨rfl, ⟨nd, rfl⟩⟩; (try first | exact ⟨rfl, _, World.drewN_drewN _ _ _⟩ | exact ⟨rfl, _, Eq.trans (World.drewN_drewN _ _ _) (congrArg (World.drewN _) (Nat.add_assoc _ _ _))⟩)))
              repeat (go_quiet (first | (go_at_call 19; (with_reducible refine (instarref12_Find.calls k1 _ _ l0 a1_1 t132 _ ?side1 ?side2 A12.out).mono ?_); (case side1 => repeat (first | exact (Kd.C_below HR0.out HB.out) | (with_reducible refine Kd.C_alloc ?_ _) | (with_reducible refine Kd.C_drewN ?_ _) | (with_reducible refine Kd.C_drew ?_))); (case side2 => exact HC0.out); rintro e w' ⟨rfl, ⟨nd, rfl⟩⟩; (try first | exact ⟨rfl, _, World.drewN_drewN _ _ _⟩ | exact ⟨rfl, _, Eq.trans (World.drewN_drewN _ _ _) (congrArg (World.drewN _) (Nat.add_assoc _ _ _))⟩))); try go_wp2_with (first | (go_at_call 19; (with_reducible refine (instarref12_Find.calls k1 _ _ l0 a1_1 t132 _ ?side1 ?side2 A12.out).mono ?_); (case side1 => repeat (first | exact (Kd.C_below HR0.out HB.out) | (with_reducible refine Kd.C_alloc ?_ _) | (with_reducible refine Kd.C_drewN ?_ _) | (with_reducible refine Kd.C_drew ?_))); (case side2 => exact HC0.out); rintro e w' ⟨rfl, ⟨nd, rfl⟩⟩; (try first | exact ⟨rfl, _, World.drewN_drewN _ _ _⟩ | exact ⟨rfl, _, Eq.trans (World.drewN_drewN _ _ _) (congrArg (World.drewN _) (Nat.add_assoc _ _ _))⟩))))
              go_ret2
              exact ⟨_, by first | rfl | (simp [errW_none, errW_some] <;> rfl) | (simp [*, errW_none, errW_some] <;> rfl), by first | exact Kd.R_nil _ _ _ _ _ | exact Kd.N_nil _ _ _ _ _ | exact Kd.V_nil _ _ _ _ _ | exact Kd.Q_nil _ _ _ _ _ | exact Kd.S_nil _ _ _ _ _, by repeat (first | (with_reducible first | exact HB.out | apply below_alloc | apply pw_below_drewN | apply below_drew1 | refine below_set ?_ GE129.out) | exact HB.out)⟩
            · rw [if_neg c15] at H
              have c15b0 : decide (12 ≤ (l0.length : Int)) = false := decide_eq_false c15
              have c15b1 : decide (12 ≤ l0.length) = false := decide_eq_false (by omega)
              clear c15
              obtain ⟨y133, hy133⟩ : ∃ y_ : List (S25), y_ = (([] : List (S25))) := ⟨_, rfl⟩
              replace H : (if y133.length + l0.length < 4398046511104 then ((some (y133 ++ l0 : List (S25))).bind fun y136 => (if y136.length < 4398046511104 then (some ((y136 ++ [(⟨a1_0, a1_1, a1_2⟩ : S25)]), 0)) else (none))) else (none)) = some (r1, r2) := by first | (rw [hy133]; with_reducible exact H) | (have H2_ := (Option.bind_some _ _).symm.trans H; rw [hy133]; with_reducible exact H2_) | (have H2_ := (Option.bind_some _ _).symm.trans H; with_reducible exact H2_) | with_reducible exact H | (rw [hy133]; exact H) | exact H
              have Ny133 := Aside0.mk hy133
              clear hy133
              by_cases c17 : y133.length + l0.length < 4398046511104
              · rw [if_pos c17] at H
                have LMc17 := Aside0.mk c17
                clear c17
                obtain ⟨y136, hy136⟩ : ∃ y_ : List (S25), y_ = (y133 ++ l0) := ⟨_, rfl⟩
                replace H : (if y136.length < 4398046511104 then (some ((y136 ++ [(⟨a1_0, a1_1, a1_2⟩ : S25)]), 0)) else (none)) = some (r1, r2) := by first | (rw [hy136]; with_reducible exact H) | (have H2_ := (Option.bind_some _ _).symm.trans H; rw [hy136]; with_reducible exact H2_) | (have H2_ := (Option.bind_some _ _).symm.trans H; with_reducible exact H2_) | with_reducible exact H | (rw [hy136]; exact H) | exact H
                have Ny136 := Aside0.mk hy136
                clear hy136
                by_cases c18 : y136.length < 4398046511104
                · rw [if_pos c18] at H
                  have LMc18 := Aside0.mk c18
                  clear c18
                  obtain ⟨y139, hy139⟩ : ∃ y_ : List (S25), y_ = (y136 ++ [(⟨a1_0, a1_1, a1_2⟩ : S25)]) := ⟨_, rfl⟩
                  replace H : (some (y139, 0)) = some (r1, r2) := by first | (rw [hy139]; with_reducible exact H) | (have H2_ := (Option.bind_some _ _).symm.trans H; rw [hy139]; with_reducible exact H2_) | (have H2_ := (Option.bind_some _ _).symm.trans H; with_reducible exact H2_) | with_reducible exact H | (rw [hy139]; exact H) | exact H
                  have Ny139 := Aside0.mk hy139
                  clear hy139
                  simp only [Option.some.injEq, Prod.mk.injEq] at H
                  obtain ⟨rfl, rfl⟩ := H
                  have hcz19_0 : wr.cell? ⟨gb129, 0, none⟩ = some (.int .i64 a1_0) := (blk_cell BK129.out 0).trans rfl
                  have hcz19_1 : wr.cell? ⟨gb129, 1, none⟩ = some (.string a1_1) := (blk_cell BK129.out 1).trans rfl
                  have hcz19_2 : wr.cell? ⟨gb129, 2, none⟩ = some (.int .i64 a1_2) := (blk_cell BK129.out 2).trans rfl
                  have hfz19_0 := blk_frozen BK129.out 0
                  have hfz19_1 := blk_frozen BK129.out 1
                  have hfz19_2 := blk_frozen BK129.out 2
                  go_wp2_with (first | (go_at_call 19; (with_reducible refine (instarref12_Find.calls k1 _ _ l0 a1_1 t132 _ ?side1 ?side2 A12.out).mono ?_); (case side1 => repeat (first | exact (Kd.C_below HR0.out HB.out) | (with_reducible refine Kd.C_alloc ?_ _) | (with_reducible refine Kd.C_drewN ?_ _) | (with_reducible refine Kd.C_drew ?_))); (case side2 => exact HC0.out); rintro e w' ⟨rfl, ⟨nd, rfl⟩⟩; (try first | exact ⟨rfl, _, World.drewN_drewN _ _ _⟩ | exact ⟨rfl, _, Eq.trans (World.drewN_drewN _ _ _) (congrArg (World.drewN _) (Nat.add_assoc _ _ _))⟩)) | ((with_reducible refine gate_dst (N := 38) rfl ?_); refine Kd.R_lit k25 _ 25 ?hg (N := 38) ?hd (xs := ([] : List (S25))) (inner := []) (ok := fun _ => True) (okp := fun _ => True) ?hr ?hp (fun _ hk => hk) trivial (Below.refl _ _) (Nat.le_refl _) (by simp) ?_; (case hd => rfl); (case hg => rfl); (case hr => first | (go_simp; done) | (go_simp; rfl)); (case hp => exact (Reps.none _ _)); intro v134 w20 ho21 hb hg_ hnew_; clear hg_ hnew_; (first | rw [← Ny133.out] at ho21 | (simp only [Int.reduceToNat] at ho21; rw [← Ny133.out] at ho21)); have n0_ := Aside0.mk (Kd.R_lower (Kd.R_newB ho21 (g := gb129) (o := .cells #[.int .i64 a1_0, .string a1_1, .int .i64 a1_2] 25 (0, 0)) (by (with_reducible repeat (first | refine blk_drewN ?_ _ | refine blk_drew ?_ | refine blk_alloc ?_ _)); exact BK129.out)) (below_size (by repeat (first | (with_reducible first | exact HB.out | apply below_alloc | apply pw_below_drewN | apply below_drew1 | refine below_set ?_ GE129.out) | exact HB.out)))); have n1_ := Aside0.mk (blk_below (g := gb129) (o := .cells #[.int .i64 a1_0, .string a1_1, .int .i64 a1_2] 25 (0, 0)) (by (with_reducible repeat (first | refine blk_drewN ?_ _ | refine blk_drew ?_ | refine blk_alloc ?_ _)); exact BK129.out) hb); have n2_ := Aside0.mk (below_step (by repeat (first | (with_reducible first | exact HB.out | apply below_alloc | apply pw_below_drewN | apply below_drew1 | refine below_set ?_ GE129.out) | exact HB.out)) hb); clear BK129; clear HB; have HO135 := n0_; have BK129 := n1_; have HB := n2_; clear n0_ n1_ n2_; clear hb ho21) | ((with_reducible refine gate_builtin (b := .append) (xs := #[.tmp 38, .tmp 39]) rfl ?_); at_builtin; refine Kd.R_append_rows k25 (w0 := w) w.heap.size rfl (.tmp 38) (.tmp 39) 22 25 (.agg #[(.int .i64 0), (.string ⟨#[]⟩), (.int .i64 0)]) 32 rfl Tryd.underlying22 info25 rfl (by decide) (by omega) v134 y133 l0 _ _ _ (fun k_ => k_ ≠ gb129) (fun _ => False) rfl rfl ?aO ?aR (fun _ _ h => h) (fun _ h => h.elim) ?aF ?aB ?aS ?aL ?_; (case aR => repeat (first | exact (Kd.C_below HR0.out HB.out) | (with_reducible refine Kd.C_alloc ?_ _) | (with_reducible refine Kd.C_drewN ?_ _) | (with_reducible refine Kd.C_drew ?_))); (case aB => exact (by repeat (first | (with_reducible first | exact HB.out | apply below_alloc | apply pw_below_drewN | apply below_drew1 | refine below_set ?_ GE129.out) | exact HB.out))); (case aF => exact (fun k_ hk => Kd.freshB (g := gb129) (o := .cells #[.int .i64 a1_0, .string a1_1, .int .i64 a1_2] 25 (0, 0)) (by (with_reducible repeat (first | refine blk_drewN ?_ _ | refine blk_drew ?_ | refine blk_alloc ?_ _)); exact BK129.out) k_ hk)); (case aO => exact (by (with_reducible repeat (first | apply Kd.R_alloc | apply Kd.R_drewN | apply Kd.R_drew)); exact Kd.R_mono HO135.out (fun _ hk => hk.2))); (case aS => exact (below_size (by repeat (first | (with_reducible first | exact HB.out | apply below_alloc | apply pw_below_drewN | apply below_drew1 | refine below_set ?_ GE129.out) | exact HB.out)))); (case aL => have := LMc17.out; omega); intro v137 w22 ho hb hg hat; rw [← Ny136.out] at ho; have n0_ := Aside0.mk (blk_grown (g := gb129) (o := .cells #[.int .i64 a1_0, .string a1_1, .int .i64 a1_2] 25 (0, 0)) (by (with_reducible repeat (first | refine blk_drewN ?_ _ | refine blk_drew ?_ | refine blk_alloc ?_ _)); exact BK129.out) hg (Kd.R_away HO135.out (fun _ hk => hk.2))); have n1_ := Aside0.mk (hb); have n2_ := Aside0.mk (ho); clear BK129; clear HB; clear HO135; have BK129 := n0_; have HB := n1_; have HO138 := n2_; clear n0_ n1_ n2_; clear ho hb hg hat; have hcz23_0 : w22.cell? ⟨gb129, 0, none⟩ = some (.int .i64 a1_0) := (blk_cell BK129.out 0).trans rfl; have hcz23_1 : w22.cell? ⟨gb129, 1, none⟩ = some (.string a1_1) := (blk_cell BK129.out 1).trans rfl; have hcz23_2 : w22.cell? ⟨gb129, 2, none⟩ = some (.int .i64 a1_2) := (blk_cell BK129.out 2).trans rfl; have hfz23_0 := blk_frozen BK129.out 0; have hfz23_1 := blk_frozen BK129.out 1; have hfz23_2 := blk_frozen BK129.out 2) | ((with_reducible refine gate_builtin (b := .append) (xs := #[.tmp 41, .tmp 43]) rfl ?_); at_builtin; refine Kd.R_append k25 (w0 := w) w.heap.size rfl (.tmp 41) (.tmp 43) 22 25 (.agg #[(.int .i64 0), (.string ⟨#[]⟩), (.int .i64 0)]) 32 rfl Tryd.underlying22 info25 rfl (by decide) (by omega) v137 y136 (⟨a1_0, a1_1, a1_2⟩ : S25) [.int .i64 a1_0, .string a1_1, .int .i64 a1_2] (fun k_ => k_ ≠ gb129) (fun _ => False) rfl rfl ?aP (fun _ hk => hk.elim) ?aF ?aO ?aB ?aS ?aL ?_; (case aP => exact k25_mkM _ _ _ (⟨a1_0, a1_1, a1_2⟩ : S25)); (case aB => exact (by repeat (first | (with_reducible first | exact HB.out | apply below_alloc | apply pw_below_drewN | apply below_drew1 | refine below_set ?_ GE129.out) | exact HB.out))); (case aF => exact (fun k_ hk => Kd.freshB (g := gb129) (o := .cells #[.int .i64 a1_0, .string a1_1, .int .i64 a1_2] 25 (0, 0)) (by (with_reducible repeat (first | refine blk_drewN ?_ _ | refine blk_drew ?_ | refine blk_alloc ?_ _)); exact BK129.out) k_ hk)); (case aO => exact (by (with_reducible repeat (first | apply Kd.R_alloc | apply Kd.R_drewN | apply Kd.R_drew)); exact HO138.out)); (case aS => exact (below_size (by repeat (first | (with_reducible first | exact HB.out | apply below_alloc | apply pw_below_drewN | apply below_drew1 | refine below_set ?_ GE129.out) | exact HB.out)))); (case aL => have := LMc18.out; omega); intro v140 w24 ho hb hg hat; rw [← Ny139.out] at ho; have n0_ := Aside0.mk (blk_grown (g := gb129) (o := .cells #[.int .i64 a1_0, .string a1_1, .int .i64 a1_2] 25 (0, 0)) (by (with_reducible repeat (first | refine blk_drewN ?_ _ | refine blk_drew ?_ | refine blk_alloc ?_ _)); exact BK129.out) hg (Kd.R_away HO138.out (fun _ hk => hk))); have n1_ := Aside0.mk (hb); have n2_ := Aside0.mk (ho); clear BK129; clear HB; clear HO138; have BK129 := n0_; have HB := n1_; have HO141 := n2_; clear n0_ n1_ n2_; clear ho hb hg hat))
                  repeat (go_quiet (first | (go_at_call 19; (with_reducible refine (instarref12_Find.calls k1 _ _ l0 a1_1 t132 _ ?side1 ?side2 A12.out).mono ?_); (case side1 => repeat (first | exact (Kd.C_below HR0.out HB.out) | (with_reducible refine Kd.C_alloc ?_ _) | (with_reducible refine Kd.C_drewN ?_ _) | (with_reducible refine Kd.C_drew ?_))); (case side2 => exact HC0.out); rintro e w' ⟨rfl, ⟨nd, rfl⟩⟩; (try first | exact ⟨rfl, _, World.drewN_drewN _ _ _⟩ | exact ⟨rfl, _, Eq.trans (World.drewN_drewN _ _ _) (congrArg (World.drewN _) (Nat.add_assoc _ _ _))⟩)) | ((with_reducible refine gate_dst (N := 38) rfl ?_); refine Kd.R_lit k25 _ 25 ?hg (N := 38) ?hd (xs := ([] : List (S25))) (inner := []) (ok := fun _ => True) (okp := fun _ => True) ?hr ?hp (fun _ hk => hk) trivial (Below.refl _ _) (Nat.le_refl _) (by simp) ?_; (case hd => rfl); (case hg => rfl); (case hr => first | (go_simp; done) | (go_simp; rfl)); (case hp => exact (Reps.none _ _)); intro v134 w20 ho21 hb hg_ hnew_; clear hg_ hnew_; (first | rw [← Ny133.out] at ho21 | (simp only [Int.reduceToNat] at ho21; rw [← Ny133.out] at ho21)); have n0_ := Aside0.mk (Kd.R_lower (Kd.R_newB ho21 (g := gb129) (o := .cells #[.int .i64 a1_0, .string a1_1, .int .i64 a1_2] 25 (0, 0)) (by (with_reducible repeat (first | refine blk_drewN ?_ _ | refine blk_drew ?_ | refine blk_alloc ?_ _)); exact BK129.out)) (below_size (by repeat (first | (with_reducible first | exact HB.out | apply below_alloc | apply pw_below_drewN | apply below_drew1 | refine below_set ?_ GE129.out) | exact HB.out)))); have n1_ := Aside0.mk (blk_below (g := gb129) (o := .cells #[.int .i64 a1_0, .string a1_1, .int .i64 a1_2] 25 (0, 0)) (by (with_reducible repeat (first | refine blk_drewN ?_ _ | refine blk_drew ?_ | refine blk_alloc ?_ _)); exact BK129.out) hb); have n2_ := Aside0.mk (below_step (by repeat (first | (with_reducible first | exact HB.out | apply below_alloc | apply pw_below_drewN | apply below_drew1 | refine below_set ?_ GE129.out) | exact HB.out)) hb); clear BK129; clear HB; have HO135 := n0_; have BK129 := n1_; have HB := n2_; clear n0_ n1_ n2_; clear hb ho21) | ((with_reducible refine gate_builtin (b := .append) (xs := #[.tmp 38, .tmp 39]) rfl ?_); at_builtin; refine Kd.R_append_rows k25 (w0 := w) w.heap.size rfl (.tmp 38) (.tmp 39) 22 25 (.agg #[(.int .i64 0), (.string ⟨#[]⟩), (.int .i64 0)]) 32 rfl Tryd.underlying22 info25 rfl (by decide) (by omega) v134 y133 l0 _ _ _ (fun k_ => k_ ≠ gb129) (fun _ => False) rfl rfl ?aO ?aR (fun _ _ h => h) (fun _ h => h.elim) ?aF ?aB ?aS ?aL ?_; (case aR => repeat (first | exact (Kd.C_below HR0.out HB.out) | (with_reducible refine Kd.C_alloc ?_ _) | (with_reducible refine Kd.C_drewN ?_ _) | (with_reducible refine Kd.C_drew ?_))); (case aB => exact (by repeat (first | (with_reducible first | exact HB.out | apply below_alloc | apply pw_below_drewN | apply below_drew1 | refine below_set ?_ GE129.out) | exact HB.out))); (case aF => exact (fun k_ hk => Kd.freshB (g := gb129) (o := .cells #[.int .i64 a1_0, .string a1_1, .int .i64 a1_2] 25 (0, 0)) (by (with_reducible repeat (first | refine blk_drewN ?_ _ | refine blk_drew ?_ | refine blk_alloc ?_ _)); exact BK129.out) k_ hk)); (case aO => exact (by (with_reducible repeat (first | apply Kd.R_alloc | apply Kd.R_drewN | apply Kd.R_drew)); exact Kd.R_mono HO135.out (fun _ hk => hk.2))); (case aS => exact (below_size (by repeat (first | (with_reducible first | exact HB.out | apply below_alloc | apply pw_below_drewN | apply below_drew1 | refine below_set ?_ GE129.out) | exact HB.out)))); (case aL => have := LMc17.out; omega); intro v137 w22 ho hb hg hat; rw [← Ny136.out] at ho; have n0_ := Aside0.mk (blk_grown (g := gb129) (o := .cells #[.int .i64 a1_0, .string a1_1, .int .i64 a1_2] 25 (0, 0)) (by (with_reducible repeat (first | refine blk_drewN ?_ _ | refine blk_drew ?_ | refine blk_alloc ?_ _)); exact BK129.out) hg (Kd.R_away HO135.out (fun _ hk => hk.2))); have n1_ := Aside0.mk (hb); have n2_ := Aside0.mk (ho); clear BK129; clear HB; clear HO135; have BK129 := n0_; have HB := n1_; have HO138 := n2_; clear n0_ n1_ n2_; clear ho hb hg hat; have hcz23_0 : w22.cell? ⟨gb129, 0, none⟩ = some (.int .i64 a1_0) := (blk_cell BK129.out 0).trans rfl; have hcz23_1 : w22.cell? ⟨gb129, 1, none⟩ = some (.string a1_1) := (blk_cell BK129.out 1).trans rfl; have hcz23_2 : w22.cell? ⟨gb129, 2, none⟩ = some (.int .i64 a1_2) := (blk_cell BK129.out 2).trans rfl; have hfz23_0 := blk_frozen BK129.out 0; have hfz23_1 := blk_frozen BK129.out 1; have hfz23_2 := blk_frozen BK129.out 2) | ((with_reducible refine gate_builtin (b := .append) (xs := #[.tmp 41, .tmp 43]) rfl ?_); at_builtin; refine Kd.R_append k25 (w0 := w) w.heap.size rfl (.tmp 41) (.tmp 43) 22 25 (.agg #[(.int .i64 0), (.string ⟨#[]⟩), (.int .i64 0)]) 32 rfl Tryd.underlying22 info25 rfl (by decide) (by omega) v137 y136 (⟨a1_0, a1_1, a1_2⟩ : S25) [.int .i64 a1_0, .string a1_1, .int .i64 a1_2] (fun k_ => k_ ≠ gb129) (fun _ => False) rfl rfl ?aP (fun _ hk => hk.elim) ?aF ?aO ?aB ?aS ?aL ?_; (case aP => exact k25_mkM _ _ _ (⟨a1_0, a1_1, a1_2⟩ : S25)); (case aB => exact (by repeat (first | (with_reducible first | exact HB.out | apply below_alloc | apply pw_below_drewN | apply below_drew1 | refine below_set ?_ GE129.out) | exact HB.out))); (case aF => exact (fun k_ hk => Kd.freshB (g := gb129) (o := .cells #[.int .i64 a1_0, .string a1_1, .int .i64 a1_2] 25 (0, 0)) (by (with_reducible repeat (first | refine blk_drewN ?_ _ | refine blk_drew ?_ | refine blk_alloc ?_ _)); exact BK129.out) k_ hk)); (case aO => exact (by (with_reducible repeat (first | apply Kd.R_alloc | apply Kd.R_drewN | apply Kd.R_drew)); exact HO138.out)); (case aS => exact (below_size (by repeat (first | (with_reducible first | exact HB.out | apply below_alloc | apply pw_below_drewN | apply below_drew1 | refine below_set ?_ GE129.out) | exact HB.out)))); (case aL => have := LMc18.out; omega); intro v140 w24 ho hb hg hat; rw [← Ny139.out] at ho; have n0_ := Aside0.mk (blk_grown (g := gb129) (o := .cells #[.int .i64 a1_0, .string a1_1, .int .i64 a1_2] 25 (0, 0)) (by (with_reducible repeat (first | refine blk_drewN ?_ _ | refine blk_drew ?_ | refine blk_alloc ?_ _)); exact BK129.out) hg (Kd.R_away HO138.out (fun _ hk => hk))); have n1_ := Aside0.mk (hb); have n2_ := Aside0.mk (ho); clear BK129; clear HB; clear HO138; have BK129 := n0_; have HB := n1_; have HO141 := n2_; clear n0_ n1_ n2_; clear ho hb hg hat)); try go_wp2_with (first | (go_at_call 19; (with_reducible refine (instarref12_Find.calls k1 _ _ l0 a1_1 t132 _ ?side1 ?side2 A12.out).mono ?_); (case side1 => repeat (first | exact (Kd.C_below HR0.out HB.out) | (with_reducible refine Kd.C_alloc ?_ _) | (with_reducible refine Kd.C_drewN ?_ _) | (with_reducible refine Kd.C_drew ?_))); (case side2 => exact HC0.out); rintro e w' ⟨rfl, ⟨nd, rfl⟩⟩; (try first | exact ⟨rfl, _, World.drewN_drewN _ _ _⟩ | exact ⟨rfl, _, Eq.trans (World.drewN_drewN _ _ _) (congrArg (World.drewN _) (Nat.add_assoc _ _ _))⟩)) | ((with_reducible refine gate_dst (N := 38) rfl ?_); refine Kd.R_lit k25 _ 25 ?hg (N := 38) ?hd (xs := ([] : List (S25))) (inner := []) (ok := fun _ => True) (okp := fun _ => True) ?hr ?hp (fun _ hk => hk) trivial (Below.refl _ _) (Nat.le_refl _) (by simp) ?_; (case hd => rfl); (case hg => rfl); (case hr => first | (go_simp; done) | (go_simp; rfl)); (case hp => exact (Reps.none _ _)); intro v134 w20 ho21 hb hg_ hnew_; clear hg_ hnew_; (first | rw [← Ny133.out] at ho21 | (simp only [Int.reduceToNat] at ho21; rw [← Ny133.out] at ho21)); have n0_ := Aside0.mk (Kd.R_lower (Kd.R_newB ho21 (g := gb129) (o := .cells #[.int .i64 a1_0, .string a1_1, .int .i64 a1_2] 25 (0, 0)) (by (with_reducible repeat (first | refine blk_drewN ?_ _ | refine blk_drew ?_ | refine blk_alloc ?_ _)); exact BK129.out)) (below_size (by repeat (first | (with_reducible first | exact HB.out | apply below_alloc | apply pw_below_drewN | apply below_drew1 | refine below_set ?_ GE129.out) | exact HB.out)))); have n1_ := Aside0.mk (blk_below (g := gb129) (o := .cells #[.int .i64 a1_0, .string a1_1, .int .i64 a1_2] 25 (0, 0)) (by (with_reducible repeat (first | refine blk_drewN ?_ _ | refine blk_drew ?_ | refine blk_alloc ?_ _)); exact BK129.out) hb); have n2_ := Aside0.mk (below_step (by repeat (first | (with_reducible first | exact HB.out | apply below_alloc | apply pw_below_drewN | apply below_drew1 | refine below_set ?_ GE129.out) | exact HB.out)) hb); clear BK129; clear HB; have HO135 := n0_; have BK129 := n1_; have HB := n2_; clear n0_ n1_ n2_; clear hb ho21) | ((with_reducible refine gate_builtin (b := .append) (xs := #[.tmp 38, .tmp 39]) rfl ?_); at_builtin; refine Kd.R_append_rows k25 (w0 := w) w.heap.size rfl (.tmp 38) (.tmp 39) 22 25 (.agg #[(.int .i64 0), (.string ⟨#[]⟩), (.int .i64 0)]) 32 rfl Tryd.underlying22 info25 rfl (by decide) (by omega) v134 y133 l0 _ _ _ (fun k_ => k_ ≠ gb129) (fun _ => False) rfl rfl ?aO ?aR (fun _ _ h => h) (fun _ h => h.elim) ?aF ?aB ?aS ?aL ?_; (case aR => repeat (first | exact (Kd.C_below HR0.out HB.out) | (with_reducible refine Kd.C_alloc ?_ _) | (with_reducible refine Kd.C_drewN ?_ _) | (with_reducible refine Kd.C_drew ?_))); (case aB => exact (by repeat (first | (with_reducible first | exact HB.out | apply below_alloc | apply pw_below_drewN | apply below_drew1 | refine below_set ?_ GE129.out) | exact HB.out))); (case aF => exact (fun k_ hk => Kd.freshB (g := gb129) (o := .cells #[.int .i64 a1_0, .string a1_1, .int .i64 a1_2] 25 (0, 0)) (by (with_reducible repeat (first | refine blk_drewN ?_ _ | refine blk_drew ?_ | refine blk_alloc ?_ _)); exact BK129.out) k_ hk)); (case aO => exact (by (with_reducible repeat (first | apply Kd.R_alloc | apply Kd.R_drewN | apply Kd.R_drew)); exact Kd.R_mono HO135.out (fun _ hk => hk.2))); (case aS => exact (below_size (by repeat (first | (with_reducible first | exact HB.out | apply below_alloc | apply pw_below_drewN | apply below_drew1 | refine below_set ?_ GE129.out) | exact HB.out)))); (case aL => have := LMc17.out; omega); intro v137 w22 ho hb hg hat; rw [← Ny136.out] at ho; have n0_ := Aside0.mk (blk_grown (g := gb129) (o := .cells #[.int .i64 a1_0, .string a1_1, .int .i64 a1_2] 25 (0, 0)) (by (with_reducible repeat (first | refine blk_drewN ?_ _ | refine blk_drew ?_ | refine blk_alloc ?_ _)); exact BK129.out) hg (Kd.R_away HO135.out (fun _ hk => hk.2))); have n1_ := Aside0.mk (hb); have n2_ := Aside0.mk (ho); clear BK129; clear HB; clear HO135; have BK129 := n0_; have HB := n1_; have HO138 := n2_; clear n0_ n1_ n2_; clear ho hb hg hat; have hcz23_0 : w22.cell? ⟨gb129, 0, none⟩ = some (.int .i64 a1_0) := (blk_cell BK129.out 0).trans rfl; have hcz23_1 : w22.cell? ⟨gb129, 1, none⟩ = some (.string a1_1) := (blk_cell BK129.out 1).trans rfl; have hcz23_2 : w22.cell? ⟨gb129, 2, none⟩ = some (.int .i64 a1_2) := (blk_cell BK129.out 2).trans rfl; have hfz23_0 := blk_frozen BK129.out 0; have hfz23_1 := blk_frozen BK129.out 1; have hfz23_2 := blk_frozen BK129.out 2) | ((with_reducible refine gate_builtin (b := .append) (xs := #[.tmp 41, .tmp 43]) rfl ?_); at_builtin; refine Kd.R_append k25 (w0 := w) w.heap.size rfl (.tmp 41) (.tmp 43) 22 25 (.agg #[(.int .i64 0), (.string ⟨#[]⟩), (.int .i64 0)]) 32 rfl Tryd.underlying22 info25 rfl (by decide) (by omega) v137 y136 (⟨a1_0, a1_1, a1_2⟩ : S25) [.int .i64 a1_0, .string a1_1, .int .i64 a1_2] (fun k_ => k_ ≠ gb129) (fun _ => False) rfl rfl ?aP (fun _ hk => hk.elim) ?aF ?aO ?aB ?aS ?aL ?_; (case aP => exact k25_mkM _ _ _ (⟨a1_0, a1_1, a1_2⟩ : S25)); (case aB => exact (by repeat (first | (with_reducible first | exact HB.out | apply below_alloc | apply pw_below_drewN | apply below_drew1 | refine below_set ?_ GE129.out) | exact HB.out))); (case aF => exact (fun k_ hk => Kd.freshB (g := gb129) (o := .cells #[.int .i64 a1_0, .string a1_1, .int .i64 a1_2] 25 (0, 0)) (by (with_reducible repeat (first | refine blk_drewN ?_ _ | refine blk_drew ?_ | refine blk_alloc ?_ _)); exact BK129.out) k_ hk)); (case aO => exact (by (with_reducible repeat (first | apply Kd.R_alloc | apply Kd.R_drewN | apply Kd.R_drew)); exact HO138.out)); (case aS => exact (below_size (by repeat (first | (with_reducible first | exact HB.out | apply below_alloc | apply pw_below_drewN | apply below_drew1 | refine below_set ?_ GE129.out) | exact HB.out)))); (case aL => have := LMc18.out; omega); intro v140 w24 ho hb hg hat; rw [← Ny139.out] at ho; have n0_ := Aside0.mk (blk_grown (g := gb129) (o := .cells #[.int .i64 a1_0, .string a1_1, .int .i64 a1_2] 25 (0, 0)) (by (with_reducible repeat (first | refine blk_drewN ?_ _ | refine blk_drew ?_ | refine blk_alloc ?_ _)); exact BK129.out) hg (Kd.R_away HO138.out (fun _ hk => hk))); have n1_ := Aside0.mk (hb); have n2_ := Aside0.mk (ho); clear BK129; clear HB; clear HO138; have BK129 := n0_; have HB := n1_; have HO141 := n2_; clear n0_ n1_ n2_; clear ho hb hg hat)))
                  go_ret2
                  exact ⟨_, by first | rfl | (simp [errW_none, errW_some] <;> rfl) | (simp [*, errW_none, errW_some] <;> rfl), by (with_reducible repeat (first | apply Kd.R_alloc | apply Kd.R_drewN | apply Kd.R_drew)); exact Kd.R_mono HO141.out (fun _ hk => trivial), by repeat (first | (with_reducible first | exact HB.out | apply below_alloc | apply pw_below_drewN | apply below_drew1 | refine below_set ?_ GE129.out) | exact HB.out)⟩
                · rw [if_neg c18] at H
                  exact absurd H (by simp)
              · rw [if_neg c17] at H
                exact absurd H (by simp)
        · replace c11 := Bool.eq_false_iff.mpr c11
          subst c11
          have H1 : (some (([] : List (S25)), 1)) = some (r1, r2) := by rw [if_neg (show ¬ (false = true) by decide)] at H; exact H
          clear H
          have H := H1
          clear H1
          simp only [Option.some.injEq, Prod.mk.injEq] at H
          obtain ⟨rfl, rfl⟩ := H
          go_wp2
          repeat (go_quiet (fail); try go_wp2)
          go_ret2
          exact ⟨_, by first | rfl | (simp [errW_none, errW_some] <;> rfl) | (simp [*, errW_none, errW_some] <;> rfl), by first | exact Kd.R_nil _ _ _ _ _ | exact Kd.N_nil _ _ _ _ _ | exact Kd.V_nil _ _ _ _ _ | exact Kd.Q_nil _ _ _ _ _ | exact Kd.S_nil _ _ _ _ _, by repeat (first | (with_reducible first | exact HB.out | apply below_alloc | apply pw_below_drewN | apply below_drew1 | refine below_set ?_ GE129.out) | exact HB.out)⟩

end Go.Proofs.YtkggdnnhgafopaaDoor.Kp
