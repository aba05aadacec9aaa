/- What each function comes to, a contract of its call each (and the row of a law out of its plain statement); no condition beyond what stands in each. -/
import Derived.Test.YtkggdnnhgafopaaDoorK0
import Derived.Test.YtkggdnnhgafopaaDoorK1
import Derived.Test.YtkggdnnhgafopaaDoorK2
import Derived.Test.YtkggdnnhgafopaaDoorK4
namespace Go.Proofs.YtkggdnnhgafopaaDoor.Kp
open Go.RowKit Go.Proofs.YtkggdnnhgafopaaDoorW.PrintWords Go.Proofs.YtkggdnnhgafopaaDoorW.PrintLast Go.Proofs.YtkggdnnhgafopaaDoorW.PrintMore
attribute [local go_sem] max2_int min2_int max_two min_two max_three min_three max_four min_four   -- for this text's walks alone
set_option linter.unusedVariables false
set_option linter.unusedSimpArgs false

attribute [local go_sem high] eqA25
/-! ### instarref12_Drop: function 11 -/
def instarref12_Drop.l0 : Nat → List (S25) → Int → List (S25) → Int → Option ((List (S25)) × Int)
  | 0, _, _, _, _ => none
  | k + 1, x0, x6, x7, x8 => if x8 < (x0.length : Int) then (if x8 = x6 then (instarref12_Drop.l0 k x0 x6 x7 (wrap64 (x8 + 1))) else (if 0 ≤ x8 then (if x7.length < 4398046511104 then (instarref12_Drop.l0 k x0 x6 (x7 ++ [(⟨(rd_T25 x0 x8).f0, (rd_T25 x0 x8).f1, (rd_T25 x0 x8).f2⟩ : S25)]) (wrap64 (x8 + 1))) else (none)) else (none))) else (some (x7, 0))
def instarref12_Drop.f (k : Nat) (l0 : List (S25)) (a1 : ByteArray) : Option ((List (S25)) × Int) := (instarref12_Find.f k l0 a1).bind fun t142 => (if t142 < 0 then (some (([] : List (S25)), 121)) else (if (l0.length : Int) = 1 then (some (([] : List (S25)), 191)) else (instarref12_Drop.l0 k l0 t142 ([] : List (S25)) 0)))
theorem instarref12_Drop.mono_l : ∀ k, (∀ y0 y1 y2 y3, LeO (instarref12_Drop.l0 k y0 y1 y2 y3) (instarref12_Drop.l0 (k + 1) y0 y1 y2 y3))
  | 0 => fun _ _ _ _ r h => by simp [instarref12_Drop.l0] at h
  | k + 1 => by
    have ih0 := instarref12_Drop.mono_l k
    · intro y0 y1 y2 y3
      unfold instarref12_Drop.l0
      repeat' first
      | (with_reducible exact ih0 _ _ _ _)
      | (with_reducible exact instarref12_Find.mono _ _ _)
      | (with_reducible exact LeO.refl _)
      | (with_reducible exact LeO.none _)
      | (with_reducible refine LeO.ite ?_ ?_)
      | (with_reducible refine LeO.bind ?_ (fun _ => ?_))
      | exact ih0 _ _ _ _
      | exact instarref12_Find.mono _ _ _
      | exact LeO.none _
      | refine LeO.ite ?_ ?_
      | refine LeO.bind ?_ (fun _ => ?_)
theorem instarref12_Drop.mono : ∀ a0 a1 k, LeO (instarref12_Drop.f k a0 a1) (instarref12_Drop.f (k + 1) a0 a1) := by
  intro a0 a1 k
  have ih0 := instarref12_Drop.mono_l k
  unfold instarref12_Drop.f
  repeat' first
      | (with_reducible exact ih0 _ _ _ _)
      | (with_reducible exact instarref12_Find.mono _ _ _)
      | (with_reducible exact LeO.refl _)
      | (with_reducible exact LeO.none _)
      | (with_reducible refine LeO.ite ?_ ?_)
      | (with_reducible refine LeO.bind ?_ (fun _ => ?_))
      | exact ih0 _ _ _ _
      | exact instarref12_Find.mono _ _ _
      | exact LeO.none _
      | refine LeO.ite ?_ ?_
      | refine LeO.bind ?_ (fun _ => ?_)
set_option maxHeartbeats 8000000 in
set_option maxRecDepth 100000 in
theorem instarref12_Drop.calls (k : Nat) (A0 : Option Addr) (c0 : Nat) (l0 : List (S25)) (a1 : ByteArray) (r1 : List (S25)) (r2 : Int) (w : World) (hr0 : Kd.C k25 w A0 l0.length l0) (hc0 : l0.length ≤ c0) (h : instarref12_Drop.f k l0 a1 = some (r1, r2)) :
    Calls Tryd.prog 11 #[.slice A0 l0.length c0, .string a1] w fun e w' => ∃ v0_ : Value, e = .returned (.tuple #[v0_, .int .i64 r2]) ∧ Kd.R k25 25 w' w.heap.size (fun _ => True) v0_ r1 ∧ Below w.heap.size w w' := by
  have hu25 := Tryd.underlying25
  have HR0 := Aside0.mk hr0
  have HC0 := Aside0.mk hc0
  clear hr0 hc0
  have HB := Aside0.mk (Below.refl w.heap.size w)
  have H : ((instarref12_Find.f k l0 a1).bind fun t142 => (if t142 < 0 then (some (([] : List (S25)), 121)) else (if (l0.length : Int) = 1 then (some (([] : List (S25)), 191)) else (instarref12_Drop.l0 k l0 t142 ([] : List (S25)) 0)))) = some (r1, r2) := h
  clear h
  replace H := Option.bind_eq_some_iff.mp H
  obtain ⟨t142, A30, H⟩ := H
  replace H : (if t142 < 0 then (some (([] : List (S25)), 121)) else (if (l0.length : Int) = 1 then (some (([] : List (S25)), 191)) else (instarref12_Drop.l0 k l0 t142 ([] : List (S25)) 0))) = some (r1, r2) := H
  have A3 := Aside0.mk A30
  clear A30
  by_cases c4 : t142 < 0
  · rw [if_pos c4] at H
    have c4b0 : decide (t142 < 0) = true := decide_eq_true c4
    clear c4
    simp only [Option.some.injEq, Prod.mk.injEq] at H
    obtain ⟨rfl, rfl⟩ := H
    go_enter Tryd.func11, Tryd.ntmps11
    go_wp2_with (first | ((with_reducible refine gate_callee (f := 19) rfl ?_); refine goesL_ (some 11) rfl rfl Tryd.func19 (by kernel_rfl) rfl #[.slice A0 l0.length c0, .string a1] rfl (by (try simp only [List.map_toArray, List.map_cons, List.map_nil]); first | done | rfl | (simp only [List.length_drop, List.length_take]; rfl)) ?_; (with_reducible refine (instarref12_Find.calls k _ _ l0 a1 t142 _ ?side1 ?side2 A3.out).mono ?_); (case side1 => repeat (first | exact HR0.out | (with_reducible refine Kd.C_alloc ?_ _) | (with_reducible refine Kd.C_drewN ?_ _) | (with_reducible refine Kd.C_drew ?_))); (case side2 => exact HC0.out); rintro e w' ⟨rfl, ⟨nd, rfl⟩⟩; refine ⟨_, rfl, ?_⟩))
    go_ret2
    exact ⟨_, by first | rfl | (simp [errW_none, errW_some] <;> rfl) | (simp [*, errW_none, errW_some] <;> rfl), by first | exact Kd.R_nil _ _ _ _ _ | exact Kd.N_nil _ _ _ _ _ | exact Kd.V_nil _ _ _ _ _ | exact Kd.Q_nil _ _ _ _ _ | exact Kd.S_nil _ _ _ _ _, by repeat (first | (with_reducible first | exact HB.out | apply below_alloc | apply pw_below_drewN | apply below_drew1) | exact HB.out)⟩
  · rw [if_neg c4] at H
    have c4b0 : decide (t142 < 0) = false := decide_eq_false c4
    clear c4
    by_cases c5 : (l0.length : Int) = 1
    · rw [if_pos c5] at H
      have c5b0 : ((l0.length : Int) == 1) = true := beq_iff_eq.mpr c5
      have c5b1 : ((l0.length : Int) != 1) = false := bne_eq_false_iff_eq.mpr c5
      clear c5
      simp only [Option.some.injEq, Prod.mk.injEq] at H
      obtain ⟨rfl, rfl⟩ := H
      go_enter Tryd.func11, Tryd.ntmps11
      go_wp2_with (first | ((with_reducible refine gate_callee (f := 19) rfl ?_); refine goesL_ (some 11) rfl rfl Tryd.func19 (by kernel_rfl) rfl #[.slice A0 l0.length c0, .string a1] rfl (by (try simp only [List.map_toArray, List.map_cons, List.map_nil]); first | done | rfl | (simp only [List.length_drop, List.length_take]; rfl)) ?_; (with_reducible refine (instarref12_Find.calls k _ _ l0 a1 t142 _ ?side1 ?side2 A3.out).mono ?_); (case side1 => repeat (first | exact HR0.out | (with_reducible refine Kd.C_alloc ?_ _) | (with_reducible refine Kd.C_drewN ?_ _) | (with_reducible refine Kd.C_drew ?_))); (case side2 => exact HC0.out); rintro e w' ⟨rfl, ⟨nd, rfl⟩⟩; refine ⟨_, rfl, ?_⟩))
      go_ret2
      exact ⟨_, by first | rfl | (simp [errW_none, errW_some] <;> rfl) | (simp [*, errW_none, errW_some] <;> rfl), by first | exact Kd.R_nil _ _ _ _ _ | exact Kd.N_nil _ _ _ _ _ | exact Kd.V_nil _ _ _ _ _ | exact Kd.Q_nil _ _ _ _ _ | exact Kd.S_nil _ _ _ _ _, by repeat (first | (with_reducible first | exact HB.out | apply below_alloc | apply pw_below_drewN | apply below_drew1) | exact HB.out)⟩
    · rw [if_neg c5] at H
      have c5b0 : ((l0.length : Int) == 1) = false := beq_eq_false_iff_ne.mpr c5
      have c5b1 : ((l0.length : Int) != 1) = true := bne_iff_ne.mpr c5
      have H' := Aside0.mk H
      clear H
      go_enter Tryd.func11, Tryd.ntmps11
      go_wp2_with (first | ((with_reducible refine gate_callee (f := 19) rfl ?_); refine goesL_ (some 11) rfl rfl Tryd.func19 (by kernel_rfl) rfl #[.slice A0 l0.length c0, .string a1] rfl (by (try simp only [List.map_toArray, List.map_cons, List.map_nil]); first | done | rfl | (simp only [List.length_drop, List.length_take]; rfl)) ?_; (with_reducible refine (instarref12_Find.calls k _ _ l0 a1 t142 _ ?side1 ?side2 A3.out).mono ?_); (case side1 => repeat (first | exact HR0.out | (with_reducible refine Kd.C_alloc ?_ _) | (with_reducible refine Kd.C_drewN ?_ _) | (with_reducible refine Kd.C_drew ?_))); (case side2 => exact HC0.out); rintro e w' ⟨rfl, ⟨nd, rfl⟩⟩; refine ⟨_, rfl, ?_⟩))
      go_loopg [7, 8] k (fun kq v7 v8 w' => ∃ (x7_1 : List (S25)) (x8_1 : Int), v8 = .int .i64 x8_1 ∧ Aside0 (instarref12_Drop.l0 kq l0 t142 x7_1 x8_1 = some (r1, r2)) ∧ Aside0 (kq ≤ k) ∧ Aside0 (Kd.R k25 25 w' w.heap.size (fun _ => True) v7 x7_1) ∧ Aside0 (Below w.heap.size w w'))
      case atStart => exact ⟨(([] : List (S25))), (0), (by first | rfl | (simp; done) | (simp [*]; done)), H', ⟨Nat.le_refl _⟩, ⟨by first | exact Kd.R_nil _ _ _ _ _ | exact Kd.N_nil _ _ _ _ _ | exact Kd.V_nil _ _ _ _ _ | exact Kd.Q_nil _ _ _ _ _ | exact Kd.S_nil _ _ _ _ _⟩, ⟨by repeat (first | (with_reducible first | exact HB.out | apply below_alloc | apply pw_below_drewN | apply below_drew1) | exact HB.out)⟩⟩
      case round =>
        clear H'
        try clear c1
        try clear p2
        try clear c4
        try clear c4b0
        try clear c5
        try clear c5b0
        try clear c5b1
        obtain ⟨x7_1, x8_1, rfl, HA, HK1, HO_7, HB⟩ := hrel
        cases gk with
        | zero => exact absurd HA.out (by simp [instarref12_Drop.l0])
        | succ k1 =>
          have H := HA.out
          clear HA
          simp only [instarref12_Drop.l0] at H
          by_cases c6 : x8_1 < (l0.length : Int)
          · rw [if_pos c6] at H
            have c6b0 : decide (x8_1 < (l0.length : Int)) = true := decide_eq_true c6
            clear c6
            by_cases c7 : x8_1 = t142
            · rw [if_pos c7] at H
              have c7b0 : (x8_1 == t142) = true := beq_iff_eq.mpr c7
              have c7b1 : (x8_1 != t142) = false := bne_eq_false_iff_eq.mpr c7
              clear c7
              have H' := Aside0.mk H
              clear H
              go_wp2
              go_roundg k1
              case measure => have := HK1.out; omega
              case rel => exact ⟨(x7_1), (wrap64 (x8_1 + 1)), (by first | rfl | (simp; done) | (simp [*]; done)), H', ⟨by have := HK1.out; omega⟩, ⟨by (with_reducible repeat (first | apply Kd.R_alloc | apply Kd.R_drewN | apply Kd.R_drew)); exact HO_7.out⟩, ⟨by repeat (first | (with_reducible first | exact HB.out | apply below_alloc | apply pw_below_drewN | apply below_drew1) | exact HB.out)⟩⟩
            · rw [if_neg c7] at H
              have c7b0 : (x8_1 == t142) = false := beq_eq_false_iff_ne.mpr c7
              have c7b1 : (x8_1 != t142) = true := bne_iff_ne.mpr c7
              by_cases c8 : 0 ≤ x8_1
              · rw [if_pos c8] at H
                have c8b0 : decide (0 ≤ x8_1) = true := decide_eq_true c8
                clear c8
                by_cases c9 : x7_1.length < 4398046511104
                · rw [if_pos c9] at H
                  have LMc9 := Aside0.mk c9
                  clear c9
                  obtain ⟨y144, hy144⟩ : ∃ y_ : List (S25), y_ = (x7_1 ++ [(⟨(rd_T25 l0 x8_1).f0, (rd_T25 l0 x8_1).f1, (rd_T25 l0 x8_1).f2⟩ : S25)]) := ⟨_, rfl⟩
                  replace H : (instarref12_Drop.l0 k1 l0 t142 y144 (wrap64 (x8_1 + 1))) = some (r1, r2) := by first | (rw [hy144]; with_reducible exact H) | (have H2_ := (Option.bind_some _ _).symm.trans H; rw [hy144]; with_reducible exact H2_) | (have H2_ := (Option.bind_some _ _).symm.trans H; with_reducible exact H2_) | with_reducible exact H | (rw [hy144]; exact H) | exact H
                  have Ny144 := Aside0.mk hy144
                  clear hy144
                  have H' := Aside0.mk H
                  clear H
                  have p143 : 0 ≤ (x8_1 : Int) := of_decide_eq_true (by first | (with_reducible assumption) | assumption)
                  have q143 : x8_1 < (l0.length : Int) := of_decide_eq_true (by first | (with_reducible assumption) | assumption)
                  obtain ⟨ad143, e143, hx143_0, hx143_1, hx143_2⟩ := at_T25 HR0.out x8_1 p143 q143
                  cases e143
                  replace hx143_0 := (HB.out.cell (World.block_lt_of_cell? w _ hx143_0)).trans hx143_0
                  replace hx143_1 := (HB.out.cell (World.block_lt_of_cell? w _ hx143_1)).trans hx143_1
                  replace hx143_2 := (HB.out.cell (World.block_lt_of_cell? w _ hx143_2)).trans hx143_2
                  replace p143 := eq_true p143
                  replace q143 := eq_true q143
                  go_wp2_with (first | ((with_reducible refine gate_builtin (b := .append) (xs := #[.tmp 26, .tmp 31]) rfl ?_); at_builtin; refine Kd.R_append k25 (w0 := w) w.heap.size rfl (.tmp 26) (.tmp 31) 22 25 (.agg #[(.int .i64 0), (.string ⟨#[]⟩), (.int .i64 0)]) 32 rfl Tryd.underlying22 info25 rfl (by decide) (by omega) u7 x7_1 (⟨(rd_T25 l0 x8_1).f0, (rd_T25 l0 x8_1).f1, (rd_T25 l0 x8_1).f2⟩ : S25) [.int .i64 ((rd_T25 l0 x8_1).f0), .string ((rd_T25 l0 x8_1).f1), .int .i64 ((rd_T25 l0 x8_1).f2)] (fun _ => True) (fun _ => False) rfl rfl ?aP (fun _ hk => hk.elim) ?aF ?aO ?aB ?aS ?aL ?_; (case aP => exact k25_mkM _ _ _ (⟨(rd_T25 l0 x8_1).f0, (rd_T25 l0 x8_1).f1, (rd_T25 l0 x8_1).f2⟩ : S25)); (case aB => exact (by repeat (first | (with_reducible first | exact HB.out | apply below_alloc | apply pw_below_drewN | apply below_drew1) | exact HB.out))); (case aF => exact (fun _ _ => trivial)); (case aO => exact (by (with_reducible repeat (first | apply Kd.R_alloc | apply Kd.R_drewN | apply Kd.R_drew)); exact HO_7.out)); (case aS => exact (below_size (by repeat (first | (with_reducible first | exact HB.out | apply below_alloc | apply pw_below_drewN | apply below_drew1) | exact HB.out)))); (case aL => have := LMc9.out; omega); intro v145 w10 ho hb hg hat; rw [← Ny144.out] at ho; have n0_ := Aside0.mk (hb); have n1_ := Aside0.mk (ho); clear HB; clear HO_7; have HB := n0_; have HO146 := n1_; clear n0_ n1_; clear ho hb hg hat))
                  go_roundg k1
                  case measure => have := HK1.out; omega
                  case rel => exact ⟨(y144), (wrap64 (x8_1 + 1)), (by first | rfl | (simp; done) | (simp [*]; done)), H', ⟨by have := HK1.out; omega⟩, ⟨by (with_reducible repeat (first | apply Kd.R_alloc | apply Kd.R_drewN | apply Kd.R_drew)); exact HO146.out⟩, ⟨by repeat (first | (with_reducible first | exact HB.out | apply below_alloc | apply pw_below_drewN | apply below_drew1) | exact HB.out)⟩⟩
                · rw [if_neg c9] at H
                  exact absurd H (by simp)
              · rw [if_neg c8] at H
                exact absurd H (by simp)
          · rw [if_neg c6] at H
            have c6b0 : decide (x8_1 < (l0.length : Int)) = false := decide_eq_false c6
            clear c6
            simp only [Option.some.injEq, Prod.mk.injEq] at H
            obtain ⟨rfl, rfl⟩ := H
            go_wp2
            go_ret2
            exact ⟨_, by first | rfl | (simp [errW_none, errW_some] <;> rfl) | (simp [*, errW_none, errW_some] <;> rfl), by (with_reducible repeat (first | apply Kd.R_alloc | apply Kd.R_drewN | apply Kd.R_drew)); exact HO_7.out, by repeat (first | (with_reducible first | exact HB.out | apply below_alloc | apply pw_below_drewN | apply below_drew1) | exact HB.out)⟩

/-! ### instarref12_Rename: function 13 -/
def instarref12_Rename.f (k : Nat) (l0 : List (S25)) (a1 : ByteArray) (a2 : ByteArray) : Option ((List (S25)) × Int) := (instarref12_Find.f k l0 a1).bind fun t147 => (if t147 < 0 then (some (([] : List (S25)), 121)) else ((instarref12_Name.f k a2).bind fun t148 => (if t148 = true then ((instarref12_Find.f k l0 a2).bind fun t149 => (if t149 ≥ 0 then (some (([] : List (S25)), 122)) else ((some (([] : List (S25)) : List (S25))).bind fun y150 => (if y150.length + l0.length < 4398046511104 then ((some (y150 ++ l0 : List (S25))).bind fun y153 => (if 0 ≤ t147 then (if t147 < (y153.length : Int) then (some ((y153.set (t147 : Int).toNat (⟨(rd_T25 y153 t147).f0, a2, (rd_T25 y153 t147).f2⟩ : S25)), 0)) else (none)) else (none))) else (none))))) else (some (([] : List (S25)), 1)))))
theorem instarref12_Rename.mono : ∀ a0 a1 a2 k, LeO (instarref12_Rename.f k a0 a1 a2) (instarref12_Rename.f (k + 1) a0 a1 a2) := by
  intro a0 a1 a2 k
  unfold instarref12_Rename.f
  repeat' first
      | (with_reducible exact instarref12_Find.mono _ _ _)
      | (with_reducible exact instarref12_Name.mono _ _)
      | (with_reducible exact LeO.refl _)
      | (with_reducible exact LeO.none _)
      | (with_reducible refine LeO.ite ?_ ?_)
      | (with_reducible refine LeO.bind ?_ (fun _ => ?_))
      | exact instarref12_Find.mono _ _ _
      | exact instarref12_Name.mono _ _
      | exact LeO.none _
      | refine LeO.ite ?_ ?_
      | refine LeO.bind ?_ (fun _ => ?_)
set_option maxHeartbeats 8000000 in
set_option maxRecDepth 100000 in
theorem instarref12_Rename.calls (k : Nat) (A0 : Option Addr) (c0 : Nat) (l0 : List (S25)) (a1 : ByteArray) (a2 : ByteArray) (r1 : List (S25)) (r2 : Int) (w : World) (hr0 : Kd.C k25 w A0 l0.length l0) (hc0 : l0.length ≤ c0) (h : instarref12_Rename.f k l0 a1 a2 = some (r1, r2)) :
    Calls Tryd.prog 13 #[.slice A0 l0.length c0, .string a1, .string a2] w fun e w' => ∃ v0_ : Value, e = .returned (.tuple #[v0_, .int .i64 r2]) ∧ Kd.R k25 25 w' w.heap.size (fun _ => True) v0_ r1 ∧ Below w.heap.size w w' := by
  have HR0 := Aside0.mk hr0
  have HC0 := Aside0.mk hc0
  clear hr0 hc0
  have HB := Aside0.mk (Below.refl w.heap.size w)
  have H : ((instarref12_Find.f k l0 a1).bind fun t147 => (if t147 < 0 then (some (([] : List (S25)), 121)) else ((instarref12_Name.f k a2).bind fun t148 => (if t148 = true then ((instarref12_Find.f k l0 a2).bind fun t149 => (if t149 ≥ 0 then (some (([] : List (S25)), 122)) else ((some (([] : List (S25)) : List (S25))).bind fun y150 => (if y150.length + l0.length < 4398046511104 then ((some (y150 ++ l0 : List (S25))).bind fun y153 => (if 0 ≤ t147 then (if t147 < (y153.length : Int) then (some ((y153.set (t147 : Int).toNat (⟨(rd_T25 y153 t147).f0, a2, (rd_T25 y153 t147).f2⟩ : S25)), 0)) else (none)) else (none))) else (none))))) else (some (([] : List (S25)), 1)))))) = some (r1, r2) := h
  clear h
  replace H := Option.bind_eq_some_iff.mp H
  obtain ⟨t147, A40, H⟩ := H
  replace H : (if t147 < 0 then (some (([] : List (S25)), 121)) else ((instarref12_Name.f k a2).bind fun t148 => (if t148 = true then ((instarref12_Find.f k l0 a2).bind fun t149 => (if t149 ≥ 0 then (some (([] : List (S25)), 122)) else ((some (([] : List (S25)) : List (S25))).bind fun y150 => (if y150.length + l0.length < 4398046511104 then ((some (y150 ++ l0 : List (S25))).bind fun y153 => (if 0 ≤ t147 then (if t147 < (y153.length : Int) then (some ((y153.set (t147 : Int).toNat (⟨(rd_T25 y153 t147).f0, a2, (rd_T25 y153 t147).f2⟩ : S25)), 0)) else (none)) else (none))) else (none))))) else (some (([] : List (S25)), 1))))) = some (r1, r2) := H
  have A4 := Aside0.mk A40
  clear A40
  by_cases c5 : t147 < 0
  · rw [if_pos c5] at H
    have c5b0 : decide (t147 < 0) = true := decide_eq_true c5
    clear c5
    simp only [Option.some.injEq, Prod.mk.injEq] at H
    obtain ⟨rfl, rfl⟩ := H
    go_enter Tryd.func13, Tryd.ntmps13
    go_wp2_with (first | ((with_reducible refine gate_callee (f := 19) rfl ?_); refine goesL_ (some 13) rfl rfl Tryd.func19 (by kernel_rfl) rfl #[.slice A0 l0.length c0, .string a1] rfl (by (try simp only [List.map_toArray, List.map_cons, List.map_nil]); first | done | rfl | (simp only [List.length_drop, List.length_take]; rfl)) ?_; (with_reducible refine (instarref12_Find.calls k _ _ l0 a1 t147 _ ?side1 ?side2 A4.out).mono ?_); (case side1 => repeat (first | exact HR0.out | (with_reducible refine Kd.C_alloc ?_ _) | (with_reducible refine Kd.C_drewN ?_ _) | (with_reducible refine Kd.C_drew ?_))); (case side2 => exact HC0.out); rintro e w' ⟨rfl, ⟨nd, rfl⟩⟩; refine ⟨_, rfl, ?_⟩))
    go_ret2
    exact ⟨_, by first | rfl | (simp [errW_none, errW_some] <;> rfl) | (simp [*, errW_none, errW_some] <;> rfl), by first | exact Kd.R_nil _ _ _ _ _ | exact Kd.N_nil _ _ _ _ _ | exact Kd.V_nil _ _ _ _ _ | exact Kd.Q_nil _ _ _ _ _ | exact Kd.S_nil _ _ _ _ _, by repeat (first | (with_reducible first | exact HB.out | apply below_alloc | apply pw_below_drewN | apply below_drew1) | exact HB.out)⟩
  · rw [if_neg c5] at H
    have c5b0 : decide (t147 < 0) = false := decide_eq_false c5
    clear c5
    replace H := Option.bind_eq_some_iff.mp H
    obtain ⟨t148, A60, H⟩ := H
    replace H : (if t148 = true then ((instarref12_Find.f k l0 a2).bind fun t149 => (if t149 ≥ 0 then (some (([] : List (S25)), 122)) else ((some (([] : List (S25)) : List (S25))).bind fun y150 => (if y150.length + l0.length < 4398046511104 then ((some (y150 ++ l0 : List (S25))).bind fun y153 => (if 0 ≤ t147 then (if t147 < (y153.length : Int) then (some ((y153.set (t147 : Int).toNat (⟨(rd_T25 y153 t147).f0, a2, (rd_T25 y153 t147).f2⟩ : S25)), 0)) else (none)) else (none))) else (none))))) else (some (([] : List (S25)), 1))) = some (r1, r2) := H
    have A6 := Aside0.mk A60
    clear A60
    by_cases c7 : t148 = true
    · subst c7
      have H1 : ((instarref12_Find.f k l0 a2).bind fun t149 => (if t149 ≥ 0 then (some (([] : List (S25)), 122)) else ((some (([] : List (S25)) : List (S25))).bind fun y150 => (if y150.length + l0.length < 4398046511104 then ((some (y150 ++ l0 : List (S25))).bind fun y153 => (if 0 ≤ t147 then (if t147 < (y153.length : Int) then (some ((y153.set (t147 : Int).toNat (⟨(rd_T25 y153 t147).f0, a2, (rd_T25 y153 t147).f2⟩ : S25)), 0)) else (none)) else (none))) else (none))))) = some (r1, r2) := by rw [if_pos rfl] at H; exact H
      clear H
      have H := H1
      clear H1
      replace H := Option.bind_eq_some_iff.mp H
      obtain ⟨t149, A80, H⟩ := H
      replace H : (if t149 ≥ 0 then (some (([] : List (S25)), 122)) else ((some (([] : List (S25)) : List (S25))).bind fun y150 => (if y150.length + l0.length < 4398046511104 then ((some (y150 ++ l0 : List (S25))).bind fun y153 => (if 0 ≤ t147 then (if t147 < (y153.length : Int) then (some ((y153.set (t147 : Int).toNat (⟨(rd_T25 y153 t147).f0, a2, (rd_T25 y153 t147).f2⟩ : S25)), 0)) else (none)) else (none))) else (none)))) = some (r1, r2) := H
      have A8 := Aside0.mk A80
      clear A80
      by_cases c9 : t149 ≥ 0
      · rw [if_pos c9] at H
        have c9b0 : decide (0 ≤ t149) = true := decide_eq_true c9
        clear c9
        simp only [Option.some.injEq, Prod.mk.injEq] at H
        obtain ⟨rfl, rfl⟩ := H
        go_enter Tryd.func13, Tryd.ntmps13
        go_wp2_with (first | ((with_reducible refine gate_callee (f := 19) rfl ?_); refine goesL_ (some 13) rfl rfl Tryd.func19 (by kernel_rfl) rfl #[.slice A0 l0.length c0, .string a1] rfl (by (try simp only [List.map_toArray, List.map_cons, List.map_nil]); first | done | rfl | (simp only [List.length_drop, List.length_take]; rfl)) ?_; (with_reducible refine (instarref12_Find.calls k _ _ l0 a1 t147 _ ?side1 ?side2 A4.out).mono ?_); (case side1 => repeat (first | exact HR0.out | (with_reducible refine Kd.C_alloc ?_ _) | (with_reducible refine Kd.C_drewN ?_ _) | (with_reducible refine Kd.C_drew ?_))); (case side2 => exact HC0.out); rintro e w' ⟨rfl, ⟨nd, rfl⟩⟩; refine ⟨_, rfl, ?_⟩) | ((with_reducible refine gate_callee (f := 29) rfl ?_); refine goesL_ (some 17) rfl rfl Tryd.func29 (by kernel_rfl) rfl #[.string a2] rfl (by (try simp only [List.map_toArray, List.map_cons, List.map_nil]); first | done | rfl | (simp only [List.length_drop, List.length_take]; rfl)) ?_; (with_reducible refine (instarref12_Name.calls k a2 true _ A6.out).mono ?_); rintro e w10 ⟨rfl, hb⟩; refine ⟨_, rfl, ?_⟩; have n0_ := Aside0.mk (below_step (by repeat (first | (with_reducible first | exact HB.out | apply below_alloc | apply pw_below_drewN | apply below_drew1) | exact HB.out)) hb); clear HB; have HB := n0_; clear n0_; (try clear hb); (try clear hb2); (try clear hk); (try clear hi)) | ((with_reducible refine gate_callee (f := 19) rfl ?_); refine goesL_ (some 22) rfl rfl Tryd.func19 (by kernel_rfl) rfl #[.slice A0 l0.length c0, .string a2] rfl (by (try simp only [List.map_toArray, List.map_cons, List.map_nil]); first | done | rfl | (simp only [List.length_drop, List.length_take]; rfl)) ?_; (with_reducible refine (instarref12_Find.calls k _ _ l0 a2 t149 _ ?side1 ?side2 A8.out).mono ?_); (case side1 => repeat (first | exact (Kd.C_below HR0.out HB.out) | (with_reducible refine Kd.C_alloc ?_ _) | (with_reducible refine Kd.C_drewN ?_ _) | (with_reducible refine Kd.C_drew ?_))); (case side2 => exact HC0.out); rintro e w' ⟨rfl, ⟨nd, rfl⟩⟩; refine ⟨_, rfl, ?_⟩))
        go_ret2
        exact ⟨_, by first | rfl | (simp [errW_none, errW_some] <;> rfl) | (simp [*, errW_none, errW_some] <;> rfl), by first | exact Kd.R_nil _ _ _ _ _ | exact Kd.N_nil _ _ _ _ _ | exact Kd.V_nil _ _ _ _ _ | exact Kd.Q_nil _ _ _ _ _ | exact Kd.S_nil _ _ _ _ _, by repeat (first | (with_reducible first | exact HB.out | apply below_alloc | apply pw_below_drewN | apply below_drew1) | exact HB.out)⟩
      · rw [if_neg c9] at H
        have c9b0 : decide (0 ≤ t149) = false := decide_eq_false c9
        clear c9
        obtain ⟨y150, hy150⟩ : ∃ y_ : List (S25), y_ = (([] : List (S25))) := ⟨_, rfl⟩
        replace H : (if y150.length + l0.length < 4398046511104 then ((some (y150 ++ l0 : List (S25))).bind fun y153 => (if 0 ≤ t147 then (if t147 < (y153.length : Int) then (some ((y153.set (t147 : Int).toNat (⟨(rd_T25 y153 t147).f0, a2, (rd_T25 y153 t147).f2⟩ : S25)), 0)) else (none)) else (none))) else (none)) = some (r1, r2) := by first | (rw [hy150]; with_reducible exact H) | (have H2_ := (Option.bind_some _ _).symm.trans H; rw [hy150]; with_reducible exact H2_) | (have H2_ := (Option.bind_some _ _).symm.trans H; with_reducible exact H2_) | with_reducible exact H | (rw [hy150]; exact H) | exact H
        have Ny150 := Aside0.mk hy150
        clear hy150
        by_cases c11 : y150.length + l0.length < 4398046511104
        · rw [if_pos c11] at H
          have LMc11 := Aside0.mk c11
          clear c11
          obtain ⟨y153, hy153⟩ : ∃ y_ : List (S25), y_ = (y150 ++ l0) := ⟨_, rfl⟩
          replace H : (if 0 ≤ t147 then (if t147 < (y153.length : Int) then (some ((y153.set (t147 : Int).toNat (⟨(rd_T25 y153 t147).f0, a2, (rd_T25 y153 t147).f2⟩ : S25)), 0)) else (none)) else (none)) = some (r1, r2) := by first | (rw [hy153]; with_reducible exact H) | (have H2_ := (Option.bind_some _ _).symm.trans H; rw [hy153]; with_reducible exact H2_) | (have H2_ := (Option.bind_some _ _).symm.trans H; with_reducible exact H2_) | with_reducible exact H | (rw [hy153]; exact H) | exact H
          have Ny153 := Aside0.mk hy153
          clear hy153
          by_cases c12 : 0 ≤ t147
          · rw [if_pos c12] at H
            have c12b0 : decide (0 ≤ t147) = true := decide_eq_true c12
            clear c12
            by_cases c13 : t147 < (y153.length : Int)
            · rw [if_pos c13] at H
              have c13b0 : decide (t147 < (y153.length : Int)) = true := decide_eq_true c13
              clear c13
              obtain ⟨y156, hy156⟩ : ∃ y_ : List (S25), y_ = (y153.set (t147 : Int).toNat (⟨(rd_T25 y153 t147).f0, a2, (rd_T25 y153 t147).f2⟩ : S25)) := ⟨_, rfl⟩
              replace H : (some (y156, 0)) = some (r1, r2) := by first | (rw [hy156]; with_reducible exact H) | (have H2_ := (Option.bind_some _ _).symm.trans H; rw [hy156]; with_reducible exact H2_) | (have H2_ := (Option.bind_some _ _).symm.trans H; with_reducible exact H2_) | with_reducible exact H | (rw [hy156]; exact H) | exact H
              have Ny156 := Aside0.mk hy156
              clear hy156
              simp only [Option.some.injEq, Prod.mk.injEq] at H
              obtain ⟨rfl, rfl⟩ := H
              go_enter Tryd.func13, Tryd.ntmps13
              go_wp2_with (first | ((with_reducible refine gate_callee (f := 19) rfl ?_); refine goesL_ (some 13) rfl rfl Tryd.func19 (by kernel_rfl) rfl #[.slice A0 l0.length c0, .string a1] rfl (by (try simp only [List.map_toArray, List.map_cons, List.map_nil]); first | done | rfl | (simp only [List.length_drop, List.length_take]; rfl)) ?_; (with_reducible refine (instarref12_Find.calls k _ _ l0 a1 t147 _ ?side1 ?side2 A4.out).mono ?_); (case side1 => repeat (first | exact HR0.out | (with_reducible refine Kd.C_alloc ?_ _) | (with_reducible refine Kd.C_drewN ?_ _) | (with_reducible refine Kd.C_drew ?_))); (case side2 => exact HC0.out); rintro e w' ⟨rfl, ⟨nd, rfl⟩⟩; refine ⟨_, rfl, ?_⟩) | ((with_reducible refine gate_callee (f := 29) rfl ?_); refine goesL_ (some 17) rfl rfl Tryd.func29 (by kernel_rfl) rfl #[.string a2] rfl (by (try simp only [List.map_toArray, List.map_cons, List.map_nil]); first | done | rfl | (simp only [List.length_drop, List.length_take]; rfl)) ?_; (with_reducible refine (instarref12_Name.calls k a2 true _ A6.out).mono ?_); rintro e w15 ⟨rfl, hb⟩; refine ⟨_, rfl, ?_⟩; have n0_ := Aside0.mk (below_step (by repeat (first | (with_reducible first | exact HB.out | apply below_alloc | apply pw_below_drewN | apply below_drew1) | exact HB.out)) hb); clear HB; have HB := n0_; clear n0_; (try clear hb); (try clear hb2); (try clear hk); (try clear hi)) | ((with_reducible refine gate_callee (f := 19) rfl ?_); refine goesL_ (some 22) rfl rfl Tryd.func19 (by kernel_rfl) rfl #[.slice A0 l0.length c0, .string a2] rfl (by (try simp only [List.map_toArray, List.map_cons, List.map_nil]); first | done | rfl | (simp only [List.length_drop, List.length_take]; rfl)) ?_; (with_reducible refine (instarref12_Find.calls k _ _ l0 a2 t149 _ ?side1 ?side2 A8.out).mono ?_); (case side1 => repeat (first | exact (Kd.C_below HR0.out HB.out) | (with_reducible refine Kd.C_alloc ?_ _) | (with_reducible refine Kd.C_drewN ?_ _) | (with_reducible refine Kd.C_drew ?_))); (case side2 => exact HC0.out); rintro e w' ⟨rfl, ⟨nd, rfl⟩⟩; refine ⟨_, rfl, ?_⟩; (try (rw [drewN_self w15]; generalize hq_ : World.drewN w15 _ = w15; have n0_ : Aside0 (Below w.heap.size w w15) := ⟨by rw [← hq_]; exact (by repeat (first | (with_reducible first | exact HB.out | apply below_alloc | apply pw_below_drewN | apply below_drew1) | exact HB.out))⟩; clear HB hq_; have HB := n0_; clear n0_))) | ((with_reducible refine gate_dst (N := 24) rfl ?_); refine Kd.R_lit k25 _ 25 ?hg (N := 24) ?hd (xs := ([] : List (S25))) (inner := []) (ok := fun _ => True) (okp := fun _ => True) ?hr ?hp (fun _ hk => hk) trivial (Below.refl _ _) (Nat.le_refl _) (by simp) ?_; (case hd => rfl); (case hg => rfl); (case hr => first | (go_simp; done) | (go_simp; rfl)); (case hp => exact (Reps.none _ _)); intro v151 w16 ho17 hb hg_ hnew_; clear hg_ hnew_; (first | rw [← Ny150.out] at ho17 | (simp only [Int.reduceToNat] at ho17; rw [← Ny150.out] at ho17)); have n0_ := Aside0.mk (Kd.R_lower ho17 (below_size (by repeat (first | (with_reducible first | exact HB.out | apply below_alloc | apply pw_below_drewN | apply below_drew1) | exact HB.out)))); have n1_ := Aside0.mk (below_step (by repeat (first | (with_reducible first | exact HB.out | apply below_alloc | apply pw_below_drewN | apply below_drew1) | exact HB.out)) hb); clear HB; have HO152 := n0_; have HB := n1_; clear n0_ n1_; clear hb ho17) | ((with_reducible refine gate_builtin (b := .append) (xs := #[.tmp 24, .tmp 25]) rfl ?_); at_builtin; refine Kd.R_append_rows k25 (w0 := w) w.heap.size rfl (.tmp 24) (.tmp 25) 22 25 (.agg #[(.int .i64 0), (.string ⟨#[]⟩), (.int .i64 0)]) 32 rfl Tryd.underlying22 info25 rfl (by decide) (by omega) v151 y150 l0 _ _ _ (fun _ => True) (fun _ => False) rfl rfl ?aO ?aR (fun _ _ h => h) (fun _ h => h.elim) ?aF ?aB ?aS ?aL ?_; (case aR => repeat (first | exact (Kd.C_below HR0.out HB.out) | (with_reducible refine Kd.C_alloc ?_ _) | (with_reducible refine Kd.C_drewN ?_ _) | (with_reducible refine Kd.C_drew ?_))); (case aB => exact (by repeat (first | (with_reducible first | exact HB.out | apply below_alloc | apply pw_below_drewN | apply below_drew1) | exact HB.out))); (case aF => exact (fun _ _ => trivial)); (case aO => exact (by (with_reducible repeat (first | apply Kd.R_alloc | apply Kd.R_drewN | apply Kd.R_drew)); exact HO152.out)); (case aS => exact (below_size (by repeat (first | (with_reducible first | exact HB.out | apply below_alloc | apply pw_below_drewN | apply below_drew1) | exact HB.out)))); (case aL => have := LMc11.out; omega); intro v154 w18 ho hb hg hat; rw [← Ny153.out] at ho; have n0_ := Aside0.mk (hb); have n1_ := Aside0.mk (ho); clear HB; clear HO152; have HB := n0_; have HO155 := n1_; clear n0_ n1_; clear ho hb hg hat; have p14 : 0 ≤ (t147 : Int) := of_decide_eq_true (by first | (with_reducible assumption) | assumption); have q14 : (t147 : Int) < ((y153.length : Int) : Int) := of_decide_eq_true (by first | (with_reducible assumption) | assumption); obtain ⟨go14, co14, eo14, gb14, gl14, cl14, HG14⟩ := Kd.R_form HO155.out (by omega); (first | cases eo14 | (injection eo14 with ea_ en_ ec_; (first | subst ea_ | (injection ea_ with ea_; subst ea_)); subst ec_; clear en_)); have GB14 := Aside0.mk gb14; have GG14 := Aside0.mk HG14; clear gb14 gl14 HG14; obtain ⟨ce14, hcl14, hM14, hcc14, hfr14⟩ := Kd.R_elem HO155.out z25 (t147 : Int) p14 q14; obtain rfl := k25_openM hM14; have hx14_0 : w18.cell? ⟨go14, (t147 : Int).toNat * 3, none⟩ = some (.int .i64 ((rd_T25 y153 t147).f0)) := hcc14 0 _ rfl; have hx14_1 : w18.cell? ⟨go14, (t147 : Int).toNat * 3 + 1, none⟩ = some (.string ((rd_T25 y153 t147).f1)) := hcc14 1 _ rfl; have hx14_2 : w18.cell? ⟨go14, (t147 : Int).toNat * 3 + 2, none⟩ = some (.int .i64 ((rd_T25 y153 t147).f2)) := hcc14 2 _ rfl; have hf14_0 : w18.frozen? ⟨go14, (t147 : Int).toNat * 3, none⟩ = false := hfr14 0; have hf14_1 : w18.frozen? ⟨go14, (t147 : Int).toNat * 3 + 1, none⟩ = false := hfr14 1; have hf14_2 : w18.frozen? ⟨go14, (t147 : Int).toNat * 3 + 2, none⟩ = false := hfr14 2; clear hcl14 hcc14 hfr14 hM14; replace p14 := eq_true p14; replace q14 := eq_true q14; have HX19 := Aside0.mk (show Kd.R k25 25 w18 w.heap.size (fun _ => True) (.slice (some ⟨go14, 0, none⟩) y153.length co14) y153 from (by (with_reducible repeat (first | apply Kd.R_alloc | apply Kd.R_drewN | apply Kd.R_drew)); exact HO155.out)); obtain ⟨ce19, hcl19, hM19, hcc19, hfr19⟩ := Kd.R_elem HX19.out z25 (t147 : Int) (of_decide_eq_true (by first | (with_reducible assumption) | assumption)) (by have h_ : (t147 : Int) < ((y153.length : Int) : Int) := of_decide_eq_true (by first | (with_reducible assumption) | assumption); first | exact h_ | (have e_ := (Kd.R_reads' HO155.out).1; omega) | simpa using h_); obtain rfl := k25_openM hM19; have HP19 := Kd.R_seg HX19.out (t147 : Int) (of_decide_eq_true (by first | (with_reducible assumption) | assumption)) (by have h_ : (t147 : Int) < ((y153.length : Int) : Int) := of_decide_eq_true (by first | (with_reducible assumption) | assumption); first | exact h_ | (have e_ := (Kd.R_reads' HO155.out).1; omega) | simpa using h_) (seg := [.string a2]) (j := 1) hcl19 hcc19 (show 2 ≤ 3 from by decide) (x' := (⟨(rd_T25 y153 t147).f0, a2, (rd_T25 y153 t147).f2⟩ : S25)) (k25_mkM _ _ _ (⟨(rd_T25 y153 t147).f0, a2, (rd_T25 y153 t147).f2⟩ : S25) ) (fun _ hk => hk); have hx19_1 := hcc19 1 _ rfl; (try simp only [show (k25).sz = 3 from rfl, Nat.mul_one, Nat.add_zero] at hx19_1); have hf19_1 := hfr19 1; (try simp only [show (k25).sz = 3 from rfl, Nat.mul_one, Nat.add_zero] at hf19_1); clear hcl19 hcc19 hfr19 hM19) | ((with_reducible refine gate_store (t := 9) (p := 31) rfl ?_); refine store_event (t := 9) (p := 31) (v := ?vo_w20) (w1 := (w18.setCell ⟨go14, (t147 : Int).toNat * 3 + 1, none⟩ (.string a2))) ?hg ?ho ?hn ?hr ?_; (case ho => rfl); (case hg => rfl); (case hn => rfl); (case hr => first | (go_simp; done) | (go_simp; rfl)); intro w20 hw; have hg : w18.grownBy w20 (some go14) := (by rw [hw]; exact HP19.2); have hp_ : Kd.R k25 25 w20 w.heap.size (fun _ => True) (.slice (some ⟨go14, 0, none⟩) y153.length co14) y156 := (by rw [hw, Ny156.out]; exact HP19.1); clear HP19; have n0_ := Aside0.mk (hp_); have n1_ := Aside0.mk ((by rw [hw]; exact below_set (HB.out) GB14.out : Below w.heap.size w w20)); clear HO155; clear HB; have HO155 := n0_; have HB := n1_; clear n0_ n1_; clear hg hw hp_))
              go_ret2
              exact ⟨_, by first | rfl | (simp [errW_none, errW_some] <;> rfl) | (simp [*, errW_none, errW_some] <;> rfl), by (with_reducible repeat (first | apply Kd.R_alloc | apply Kd.R_drewN | apply Kd.R_drew)); exact HO155.out, by repeat (first | (with_reducible first | exact HB.out | apply below_alloc | apply pw_below_drewN | apply below_drew1) | exact HB.out)⟩
            · rw [if_neg c13] at H
              exact absurd H (by simp)
          · rw [if_neg c12] at H
            exact absurd H (by simp)
        · rw [if_neg c11] at H
          exact absurd H (by simp)
    · replace c7 := Bool.eq_false_iff.mpr c7
      subst c7
      have H1 : (some (([] : List (S25)), 1)) = some (r1, r2) := by rw [if_neg (show ¬ (false = true) by decide)] at H; exact H
      clear H
      have H := H1
      clear H1
      simp only [Option.some.injEq, Prod.mk.injEq] at H
      obtain ⟨rfl, rfl⟩ := H
      go_enter Tryd.func13, Tryd.ntmps13
      go_wp2_with (first | ((with_reducible refine gate_callee (f := 19) rfl ?_); refine goesL_ (some 13) rfl rfl Tryd.func19 (by kernel_rfl) rfl #[.slice A0 l0.length c0, .string a1] rfl (by (try simp only [List.map_toArray, List.map_cons, List.map_nil]); first | done | rfl | (simp only [List.length_drop, List.length_take]; rfl)) ?_; (with_reducible refine (instarref12_Find.calls k _ _ l0 a1 t147 _ ?side1 ?side2 A4.out).mono ?_); (case side1 => repeat (first | exact HR0.out | (with_reducible refine Kd.C_alloc ?_ _) | (with_reducible refine Kd.C_drewN ?_ _) | (with_reducible refine Kd.C_drew ?_))); (case side2 => exact HC0.out); rintro e w' ⟨rfl, ⟨nd, rfl⟩⟩; refine ⟨_, rfl, ?_⟩) | ((with_reducible refine gate_callee (f := 29) rfl ?_); refine goesL_ (some 17) rfl rfl Tryd.func29 (by kernel_rfl) rfl #[.string a2] rfl (by (try simp only [List.map_toArray, List.map_cons, List.map_nil]); first | done | rfl | (simp only [List.length_drop, List.length_take]; rfl)) ?_; (with_reducible refine (instarref12_Name.calls k a2 false _ A6.out).mono ?_); rintro e w21 ⟨rfl, hb⟩; refine ⟨_, rfl, ?_⟩; have n0_ := Aside0.mk (below_step (by repeat (first | (with_reducible first | exact HB.out | apply below_alloc | apply pw_below_drewN | apply below_drew1) | exact HB.out)) hb); clear HB; have HB := n0_; clear n0_; (try clear hb); (try clear hb2); (try clear hk); (try clear hi)))
      go_ret2
      exact ⟨_, by first | rfl | (simp [errW_none, errW_some] <;> rfl) | (simp [*, errW_none, errW_some] <;> rfl), by first | exact Kd.R_nil _ _ _ _ _ | exact Kd.N_nil _ _ _ _ _ | exact Kd.V_nil _ _ _ _ _ | exact Kd.Q_nil _ _ _ _ _ | exact Kd.S_nil _ _ _ _ _, by repeat (first | (with_reducible first | exact HB.out | apply below_alloc | apply pw_below_drewN | apply below_drew1) | exact HB.out)⟩

/-! ### instarref03_Wider: function 39 -/
def instarref03_Wider.f (a0 : Int) (a1 : Int) : Option (Bool) := if a0 = a1 then (if a0 ≥ 0 then (some (decide (a0 ≤ 4))) else (some false)) else (if a1 = 0 then (if a0 ≥ 0 then (some (decide (a0 ≤ 4))) else (some false)) else (if a1 ≥ 1 then (if a1 < a0 then (some (decide (a0 ≤ 3))) else (some false)) else (some false)))
set_option maxHeartbeats 8000000 in
set_option maxRecDepth 100000 in
theorem instarref03_Wider.calls (a0 : Int) (a1 : Int) (r : Bool) (w : World) (h : instarref03_Wider.f a0 a1 = some r) :
    Calls Tryd.prog 39 #[.int .i64 a0, .int .i64 a1] w fun e w' => e = .returned (.bool r) ∧ Drawn0 w w' := by
  have H : (if a0 = a1 then (if a0 ≥ 0 then (some (decide (a0 ≤ 4))) else (some false)) else (if a1 = 0 then (if a0 ≥ 0 then (some (decide (a0 ≤ 4))) else (some false)) else (if a1 ≥ 1 then (if a1 < a0 then (some (decide (a0 ≤ 3))) else (some false)) else (some false)))) = some r := h
  clear h
  by_cases c3 : a0 = a1
  · rw [if_pos c3] at H
    have c3b0 : (a0 == a1) = true := beq_iff_eq.mpr c3
    have c3b1 : (a0 != a1) = false := bne_eq_false_iff_eq.mpr c3
    clear c3
    by_cases c4 : a0 ≥ 0
    · rw [if_pos c4] at H
      have c4b0 : decide (0 ≤ a0) = true := decide_eq_true c4
      clear c4
      obtain rfl := Option.some.inj H
      go_enter Tryd.func39, Tryd.ntmps39
      go_wp2
      go_ret
      exact ⟨by first | rfl | (simp; done) | (simp [*]; done), by repeat (first | exact Drawn0.refl _ | apply Drawn0.step)⟩
    · rw [if_neg c4] at H
      have c4b0 : decide (0 ≤ a0) = false := decide_eq_false c4
      clear c4
      obtain rfl := Option.some.inj H
      go_enter Tryd.func39, Tryd.ntmps39
      go_wp2
      go_ret
      exact ⟨by first | rfl | (simp; done) | (simp [*]; done), by repeat (first | exact Drawn0.refl _ | apply Drawn0.step)⟩
  · rw [if_neg c3] at H
    have c3b0 : (a0 == a1) = false := beq_eq_false_iff_ne.mpr c3
    have c3b1 : (a0 != a1) = true := bne_iff_ne.mpr c3
    by_cases c5 : a1 = 0
    · rw [if_pos c5] at H
      have c5b0 : (a1 == 0) = true := beq_iff_eq.mpr c5
      have c5b1 : (a1 != 0) = false := bne_eq_false_iff_eq.mpr c5
      clear c5
      by_cases c6 : a0 ≥ 0
      · rw [if_pos c6] at H
        have c6b0 : decide (0 ≤ a0) = true := decide_eq_true c6
        clear c6
        obtain rfl := Option.some.inj H
        go_enter Tryd.func39, Tryd.ntmps39
        go_wp2
        go_ret
        exact ⟨by first | rfl | (simp; done) | (simp [*]; done), by repeat (first | exact Drawn0.refl _ | apply Drawn0.step)⟩
      · rw [if_neg c6] at H
        have c6b0 : decide (0 ≤ a0) = false := decide_eq_false c6
        clear c6
        obtain rfl := Option.some.inj H
        go_enter Tryd.func39, Tryd.ntmps39
        go_wp2
        go_ret
        exact ⟨by first | rfl | (simp; done) | (simp [*]; done), by repeat (first | exact Drawn0.refl _ | apply Drawn0.step)⟩
    · rw [if_neg c5] at H
      have c5b0 : (a1 == 0) = false := beq_eq_false_iff_ne.mpr c5
      have c5b1 : (a1 != 0) = true := bne_iff_ne.mpr c5
      by_cases c7 : a1 ≥ 1
      · rw [if_pos c7] at H
        have c7b0 : decide (1 ≤ a1) = true := decide_eq_true c7
        clear c7
        by_cases c8 : a1 < a0
        · rw [if_pos c8] at H
          have c8b0 : decide (a1 < a0) = true := decide_eq_true c8
          clear c8
          obtain rfl := Option.some.inj H
          go_enter Tryd.func39, Tryd.ntmps39
          go_wp2
          go_ret
          exact ⟨by first | rfl | (simp; done) | (simp [*]; done), by repeat (first | exact Drawn0.refl _ | apply Drawn0.step)⟩
        · rw [if_neg c8] at H
          have c8b0 : decide (a1 < a0) = false := decide_eq_false c8
          clear c8
          obtain rfl := Option.some.inj H
          go_enter Tryd.func39, Tryd.ntmps39
          go_wp2
          go_ret
          exact ⟨by first | rfl | (simp; done) | (simp [*]; done), by repeat (first | exact Drawn0.refl _ | apply Drawn0.step)⟩
      · rw [if_neg c7] at H
        have c7b0 : decide (1 ≤ a1) = false := decide_eq_false c7
        clear c7
        obtain rfl := Option.some.inj H
        go_enter Tryd.func39, Tryd.ntmps39
        go_wp2
        go_ret
        exact ⟨by first | rfl | (simp; done) | (simp [*]; done), by repeat (first | exact Drawn0.refl _ | apply Drawn0.step)⟩

/-! ### instarref12_Widen: function 15 -/
def instarref12_Widen.f (k : Nat) (l0 : List (S25)) (a1 : ByteArray) (a2 : Int) : Option ((List (S25)) × Int) := (instarref12_Find.f k l0 a1).bind fun t157 => (if t157 < 0 then (some (([] : List (S25)), 121)) else ((instarref03_Column.f a2).bind fun t158 => (if t158 = true then (if 0 ≤ t157 then (if t157 < (l0.length : Int) then ((instarref03_Wider.f a2 ((rd_T25 l0 t157).f2)).bind fun t160 => (if t160 = true then ((some (([] : List (S25)) : List (S25))).bind fun y161 => (if y161.length + l0.length < 4398046511104 then ((some (y161 ++ l0 : List (S25))).bind fun y164 => (if t157 < (y164.length : Int) then (some ((y164.set (t157 : Int).toNat (⟨(rd_T25 y164 t157).f0, (rd_T25 y164 t157).f1, a2⟩ : S25)), 0)) else (none))) else (none))) else (some (([] : List (S25)), 12)))) else (none)) else (none)) else (some (([] : List (S25)), 1)))))
theorem instarref12_Widen.mono : ∀ a0 a1 a2 k, LeO (instarref12_Widen.f k a0 a1 a2) (instarref12_Widen.f (k + 1) a0 a1 a2) := by
  intro a0 a1 a2 k
  unfold instarref12_Widen.f
  repeat' first
      | (with_reducible exact instarref12_Find.mono _ _ _)
      | (with_reducible exact LeO.refl _)
      | (with_reducible exact LeO.none _)
      | (with_reducible refine LeO.ite ?_ ?_)
      | (with_reducible refine LeO.bind ?_ (fun _ => ?_))
      | exact instarref12_Find.mono _ _ _
      | exact LeO.none _
      | refine LeO.ite ?_ ?_
      | refine LeO.bind ?_ (fun _ => ?_)
set_option maxHeartbeats 8000000 in
set_option maxRecDepth 100000 in
theorem instarref12_Widen.calls (k : Nat) (A0 : Option Addr) (c0 : Nat) (l0 : List (S25)) (a1 : ByteArray) (a2 : Int) (r1 : List (S25)) (r2 : Int) (w : World) (hr0 : Kd.C k25 w A0 l0.length l0) (hc0 : l0.length ≤ c0) (h : instarref12_Widen.f k l0 a1 a2 = some (r1, r2)) :
    Calls Tryd.prog 15 #[.slice A0 l0.length c0, .string a1, .int .i64 a2] w fun e w' => ∃ v0_ : Value, e = .returned (.tuple #[v0_, .int .i64 r2]) ∧ Kd.R k25 25 w' w.heap.size (fun _ => True) v0_ r1 ∧ Below w.heap.size w w' := by
  have HR0 := Aside0.mk hr0
  have HC0 := Aside0.mk hc0
  clear hr0 hc0
  have HB := Aside0.mk (Below.refl w.heap.size w)
  have H : ((instarref12_Find.f k l0 a1).bind fun t157 => (if t157 < 0 then (some (([] : List (S25)), 121)) else ((instarref03_Column.f a2).bind fun t158 => (if t158 = true then (if 0 ≤ t157 then (if t157 < (l0.length : Int) then ((instarref03_Wider.f a2 ((rd_T25 l0 t157).f2)).bind fun t160 => (if t160 = true then ((some (([] : List (S25)) : List (S25))).bind fun y161 => (if y161.length + l0.length < 4398046511104 then ((some (y161 ++ l0 : List (S25))).bind fun y164 => (if t157 < (y164.length : Int) then (some ((y164.set (t157 : Int).toNat (⟨(rd_T25 y164 t157).f0, (rd_T25 y164 t157).f1, a2⟩ : S25)), 0)) else (none))) else (none))) else (some (([] : List (S25)), 12)))) else (none)) else (none)) else (some (([] : List (S25)), 1)))))) = some (r1, r2) := h
  clear h
  replace H := Option.bind_eq_some_iff.mp H
  obtain ⟨t157, A40, H⟩ := H
  replace H : (if t157 < 0 then (some (([] : List (S25)), 121)) else ((instarref03_Column.f a2).bind fun t158 => (if t158 = true then (if 0 ≤ t157 then (if t157 < (l0.length : Int) then ((instarref03_Wider.f a2 ((rd_T25 l0 t157).f2)).bind fun t160 => (if t160 = true then ((some (([] : List (S25)) : List (S25))).bind fun y161 => (if y161.length + l0.length < 4398046511104 then ((some (y161 ++ l0 : List (S25))).bind fun y164 => (if t157 < (y164.length : Int) then (some ((y164.set (t157 : Int).toNat (⟨(rd_T25 y164 t157).f0, (rd_T25 y164 t157).f1, a2⟩ : S25)), 0)) else (none))) else (none))) else (some (([] : List (S25)), 12)))) else (none)) else (none)) else (some (([] : List (S25)), 1))))) = some (r1, r2) := H
  have A4 := Aside0.mk A40
  clear A40
  by_cases c5 : t157 < 0
  · rw [if_pos c5] at H
    have c5b0 : decide (t157 < 0) = true := decide_eq_true c5
    clear c5
    simp only [Option.some.injEq, Prod.mk.injEq] at H
    obtain ⟨rfl, rfl⟩ := H
    go_enter Tryd.func15, Tryd.ntmps15
    go_wp2_with (first | ((with_reducible refine gate_callee (f := 19) rfl ?_); refine goesL_ (some 14) rfl rfl Tryd.func19 (by kernel_rfl) rfl #[.slice A0 l0.length c0, .string a1] rfl (by (try simp only [List.map_toArray, List.map_cons, List.map_nil]); first | done | rfl | (simp only [List.length_drop, List.length_take]; rfl)) ?_; (with_reducible refine (instarref12_Find.calls k _ _ l0 a1 t157 _ ?side1 ?side2 A4.out).mono ?_); (case side1 => repeat (first | exact HR0.out | (with_reducible refine Kd.C_alloc ?_ _) | (with_reducible refine Kd.C_drewN ?_ _) | (with_reducible refine Kd.C_drew ?_))); (case side2 => exact HC0.out); rintro e w' ⟨rfl, ⟨nd, rfl⟩⟩; refine ⟨_, rfl, ?_⟩))
    go_ret2
    exact ⟨_, by first | rfl | (simp [errW_none, errW_some] <;> rfl) | (simp [*, errW_none, errW_some] <;> rfl), by first | exact Kd.R_nil _ _ _ _ _ | exact Kd.N_nil _ _ _ _ _ | exact Kd.V_nil _ _ _ _ _ | exact Kd.Q_nil _ _ _ _ _ | exact Kd.S_nil _ _ _ _ _, by repeat (first | (with_reducible first | exact HB.out | apply below_alloc | apply pw_below_drewN | apply below_drew1) | exact HB.out)⟩
  · rw [if_neg c5] at H
    have c5b0 : decide (t157 < 0) = false := decide_eq_false c5
    clear c5
    replace H := Option.bind_eq_some_iff.mp H
    obtain ⟨t158, A60, H⟩ := H
    replace H : (if t158 = true then (if 0 ≤ t157 then (if t157 < (l0.length : Int) then ((instarref03_Wider.f a2 ((rd_T25 l0 t157).f2)).bind fun t160 => (if t160 = true then ((some (([] : List (S25)) : List (S25))).bind fun y161 => (if y161.length + l0.length < 4398046511104 then ((some (y161 ++ l0 : List (S25))).bind fun y164 => (if t157 < (y164.length : Int) then (some ((y164.set (t157 : Int).toNat (⟨(rd_T25 y164 t157).f0, (rd_T25 y164 t157).f1, a2⟩ : S25)), 0)) else (none))) else (none))) else (some (([] : List (S25)), 12)))) else (none)) else (none)) else (some (([] : List (S25)), 1))) = some (r1, r2) := H
    have A6 := Aside0.mk A60
    clear A60
    by_cases c7 : t158 = true
    · subst c7
      have H1 : (if 0 ≤ t157 then (if t157 < (l0.length : Int) then ((instarref03_Wider.f a2 ((rd_T25 l0 t157).f2)).bind fun t160 => (if t160 = true then ((some (([] : List (S25)) : List (S25))).bind fun y161 => (if y161.length + l0.length < 4398046511104 then ((some (y161 ++ l0 : List (S25))).bind fun y164 => (if t157 < (y164.length : Int) then (some ((y164.set (t157 : Int).toNat (⟨(rd_T25 y164 t157).f0, (rd_T25 y164 t157).f1, a2⟩ : S25)), 0)) else (none))) else (none))) else (some (([] : List (S25)), 12)))) else (none)) else (none)) = some (r1, r2) := by rw [if_pos rfl] at H; exact H
      clear H
      have H := H1
      clear H1
      by_cases c8 : 0 ≤ t157
      · rw [if_pos c8] at H
        have c8b0 : decide (0 ≤ t157) = true := decide_eq_true c8
        clear c8
        by_cases c9 : t157 < (l0.length : Int)
        · rw [if_pos c9] at H
          have c9b0 : decide (t157 < (l0.length : Int)) = true := decide_eq_true c9
          clear c9
          replace H := Option.bind_eq_some_iff.mp H
          obtain ⟨t160, A100, H⟩ := H
          replace H : (if t160 = true then ((some (([] : List (S25)) : List (S25))).bind fun y161 => (if y161.length + l0.length < 4398046511104 then ((some (y161 ++ l0 : List (S25))).bind fun y164 => (if t157 < (y164.length : Int) then (some ((y164.set (t157 : Int).toNat (⟨(rd_T25 y164 t157).f0, (rd_T25 y164 t157).f1, a2⟩ : S25)), 0)) else (none))) else (none))) else (some (([] : List (S25)), 12))) = some (r1, r2) := H
          have A10 := Aside0.mk A100
          clear A100
          by_cases c11 : t160 = true
          · subst c11
            have H1 : ((some (([] : List (S25)) : List (S25))).bind fun y161 => (if y161.length + l0.length < 4398046511104 then ((some (y161 ++ l0 : List (S25))).bind fun y164 => (if t157 < (y164.length : Int) then (some ((y164.set (t157 : Int).toNat (⟨(rd_T25 y164 t157).f0, (rd_T25 y164 t157).f1, a2⟩ : S25)), 0)) else (none))) else (none))) = some (r1, r2) := by rw [if_pos rfl] at H; exact H
            clear H
            have H := H1
            clear H1
            obtain ⟨y161, hy161⟩ : ∃ y_ : List (S25), y_ = (([] : List (S25))) := ⟨_, rfl⟩
            replace H : (if y161.length + l0.length < 4398046511104 then ((some (y161 ++ l0 : List (S25))).bind fun y164 => (if t157 < (y164.length : Int) then (some ((y164.set (t157 : Int).toNat (⟨(rd_T25 y164 t157).f0, (rd_T25 y164 t157).f1, a2⟩ : S25)), 0)) else (none))) else (none)) = some (r1, r2) := by first | (rw [hy161]; with_reducible exact H) | (have H2_ := (Option.bind_some _ _).symm.trans H; rw [hy161]; with_reducible exact H2_) | (have H2_ := (Option.bind_some _ _).symm.trans H; with_reducible exact H2_) | with_reducible exact H | (rw [hy161]; exact H) | exact H
            have Ny161 := Aside0.mk hy161
            clear hy161
            by_cases c12 : y161.length + l0.length < 4398046511104
            · rw [if_pos c12] at H
              have LMc12 := Aside0.mk c12
              clear c12
              obtain ⟨y164, hy164⟩ : ∃ y_ : List (S25), y_ = (y161 ++ l0) := ⟨_, rfl⟩
              replace H : (if t157 < (y164.length : Int) then (some ((y164.set (t157 : Int).toNat (⟨(rd_T25 y164 t157).f0, (rd_T25 y164 t157).f1, a2⟩ : S25)), 0)) else (none)) = some (r1, r2) := by first | (rw [hy164]; with_reducible exact H) | (have H2_ := (Option.bind_some _ _).symm.trans H; rw [hy164]; with_reducible exact H2_) | (have H2_ := (Option.bind_some _ _).symm.trans H; with_reducible exact H2_) | with_reducible exact H | (rw [hy164]; exact H) | exact H
              have Ny164 := Aside0.mk hy164
              clear hy164
              by_cases c13 : t157 < (y164.length : Int)
              · rw [if_pos c13] at H
                have c13b0 : decide (t157 < (y164.length : Int)) = true := decide_eq_true c13
                clear c13
                obtain ⟨y167, hy167⟩ : ∃ y_ : List (S25), y_ = (y164.set (t157 : Int).toNat (⟨(rd_T25 y164 t157).f0, (rd_T25 y164 t157).f1, a2⟩ : S25)) := ⟨_, rfl⟩
                replace H : (some (y167, 0)) = some (r1, r2) := by first | (rw [hy167]; with_reducible exact H) | (have H2_ := (Option.bind_some _ _).symm.trans H; rw [hy167]; with_reducible exact H2_) | (have H2_ := (Option.bind_some _ _).symm.trans H; with_reducible exact H2_) | with_reducible exact H | (rw [hy167]; exact H) | exact H
                have Ny167 := Aside0.mk hy167
                clear hy167
                simp only [Option.some.injEq, Prod.mk.injEq] at H
                obtain ⟨rfl, rfl⟩ := H
                go_enter Tryd.func15, Tryd.ntmps15
                go_wp2_with (first | ((with_reducible refine gate_callee (f := 19) rfl ?_); refine goesL_ (some 14) rfl rfl Tryd.func19 (by kernel_rfl) rfl #[.slice A0 l0.length c0, .string a1] rfl (by (try simp only [List.map_toArray, List.map_cons, List.map_nil]); first | done | rfl | (simp only [List.length_drop, List.length_take]; rfl)) ?_; (with_reducible refine (instarref12_Find.calls k _ _ l0 a1 t157 _ ?side1 ?side2 A4.out).mono ?_); (case side1 => repeat (first | exact HR0.out | (with_reducible refine Kd.C_alloc ?_ _) | (with_reducible refine Kd.C_drewN ?_ _) | (with_reducible refine Kd.C_drew ?_))); (case side2 => exact HC0.out); rintro e w' ⟨rfl, ⟨nd, rfl⟩⟩; refine ⟨_, rfl, ?_⟩) | ((with_reducible refine gate_callee (f := 38) rfl ?_); refine goesL_ (some 18) rfl rfl Tryd.func38 (by kernel_rfl) rfl #[.int .i64 a2] rfl (by (try simp only [List.map_toArray, List.map_cons, List.map_nil]); first | done | rfl | (simp only [List.length_drop, List.length_take]; rfl)) ?_; (with_reducible refine (instarref03_Column.calls a2 true _ A6.out).mono ?_); rintro e w' ⟨rfl, ⟨nd, rfl⟩⟩; refine ⟨_, rfl, ?_⟩; have p159 : 0 ≤ (t157 : Int) := of_decide_eq_true (by first | (with_reducible assumption) | assumption); have q159 : t157 < (l0.length : Int) := of_decide_eq_true (by first | (with_reducible assumption) | assumption); obtain ⟨ad159, e159, hx159_0, hx159_1, hx159_2⟩ := at_T25 HR0.out t157 p159 q159; cases e159; replace p159 := eq_true p159; replace q159 := eq_true q159) | ((with_reducible refine gate_callee (f := 39) rfl ?_); refine goesL_ (some 27) rfl rfl Tryd.func39 (by kernel_rfl) rfl #[.int .i64 a2, .int .i64 ((rd_T25 l0 t157).f2)] rfl (by (try simp only [List.map_toArray, List.map_cons, List.map_nil]); first | done | rfl | (simp only [List.length_drop, List.length_take]; rfl)) ?_; (with_reducible refine (instarref03_Wider.calls a2 ((rd_T25 l0 t157).f2) true _ A10.out).mono ?_); rintro e w' ⟨rfl, ⟨nd, rfl⟩⟩; refine ⟨_, rfl, ?_⟩) | ((with_reducible refine gate_dst (N := 30) rfl ?_); refine Kd.R_lit k25 _ 25 ?hg (N := 30) ?hd (xs := ([] : List (S25))) (inner := []) (ok := fun _ => True) (okp := fun _ => True) ?hr ?hp (fun _ hk => hk) trivial (Below.refl _ _) (Nat.le_refl _) (by simp) ?_; (case hd => rfl); (case hg => rfl); (case hr => first | (go_simp; done) | (go_simp; rfl)); (case hp => exact (Reps.none _ _)); intro v162 w15 ho16 hb hg_ hnew_; clear hg_ hnew_; (first | rw [← Ny161.out] at ho16 | (simp only [Int.reduceToNat] at ho16; rw [← Ny161.out] at ho16)); have n0_ := Aside0.mk (Kd.R_lower ho16 (below_size (by repeat (first | (with_reducible first | exact HB.out | apply below_alloc | apply pw_below_drewN | apply below_drew1) | exact HB.out)))); have n1_ := Aside0.mk (below_step (by repeat (first | (with_reducible first | exact HB.out | apply below_alloc | apply pw_below_drewN | apply below_drew1) | exact HB.out)) hb); clear HB; have HO163 := n0_; have HB := n1_; clear n0_ n1_; clear hb ho16) | ((with_reducible refine gate_builtin (b := .append) (xs := #[.tmp 30, .tmp 31]) rfl ?_); at_builtin; refine Kd.R_append_rows k25 (w0 := w) w.heap.size rfl (.tmp 30) (.tmp 31) 22 25 (.agg #[(.int .i64 0), (.string ⟨#[]⟩), (.int .i64 0)]) 32 rfl Tryd.underlying22 info25 rfl (by decide) (by omega) v162 y161 l0 _ _ _ (fun _ => True) (fun _ => False) rfl rfl ?aO ?aR (fun _ _ h => h) (fun _ h => h.elim) ?aF ?aB ?aS ?aL ?_; (case aR => repeat (first | exact (Kd.C_below HR0.out HB.out) | (with_reducible refine Kd.C_alloc ?_ _) | (with_reducible refine Kd.C_drewN ?_ _) | (with_reducible refine Kd.C_drew ?_))); (case aB => exact (by repeat (first | (with_reducible first | exact HB.out | apply below_alloc | apply pw_below_drewN | apply below_drew1) | exact HB.out))); (case aF => exact (fun _ _ => trivial)); (case aO => exact (by (with_reducible repeat (first | apply Kd.R_alloc | apply Kd.R_drewN | apply Kd.R_drew)); exact HO163.out)); (case aS => exact (below_size (by repeat (first | (with_reducible first | exact HB.out | apply below_alloc | apply pw_below_drewN | apply below_drew1) | exact HB.out)))); (case aL => have := LMc12.out; omega); intro v165 w17 ho hb hg hat; rw [← Ny164.out] at ho; have n0_ := Aside0.mk (hb); have n1_ := Aside0.mk (ho); clear HB; clear HO163; have HB := n0_; have HO166 := n1_; clear n0_ n1_; clear ho hb hg hat; have p14 : 0 ≤ (t157 : Int) := of_decide_eq_true (by first | (with_reducible assumption) | assumption); have q14 : (t157 : Int) < ((y164.length : Int) : Int) := of_decide_eq_true (by first | (with_reducible assumption) | assumption); obtain ⟨go14, co14, eo14, gb14, gl14, cl14, HG14⟩ := Kd.R_form HO166.out (by omega); (first | cases eo14 | (injection eo14 with ea_ en_ ec_; (first | subst ea_ | (injection ea_ with ea_; subst ea_)); subst ec_; clear en_)); have GB14 := Aside0.mk gb14; have GG14 := Aside0.mk HG14; clear gb14 gl14 HG14; obtain ⟨ce14, hcl14, hM14, hcc14, hfr14⟩ := Kd.R_elem HO166.out z25 (t157 : Int) p14 q14; obtain rfl := k25_openM hM14; have hx14_0 : w17.cell? ⟨go14, (t157 : Int).toNat * 3, none⟩ = some (.int .i64 ((rd_T25 y164 t157).f0)) := hcc14 0 _ rfl; have hx14_1 : w17.cell? ⟨go14, (t157 : Int).toNat * 3 + 1, none⟩ = some (.string ((rd_T25 y164 t157).f1)) := hcc14 1 _ rfl; have hx14_2 : w17.cell? ⟨go14, (t157 : Int).toNat * 3 + 2, none⟩ = some (.int .i64 ((rd_T25 y164 t157).f2)) := hcc14 2 _ rfl; have hf14_0 : w17.frozen? ⟨go14, (t157 : Int).toNat * 3, none⟩ = false := hfr14 0; have hf14_1 : w17.frozen? ⟨go14, (t157 : Int).toNat * 3 + 1, none⟩ = false := hfr14 1; have hf14_2 : w17.frozen? ⟨go14, (t157 : Int).toNat * 3 + 2, none⟩ = false := hfr14 2; clear hcl14 hcc14 hfr14 hM14; replace p14 := eq_true p14; replace q14 := eq_true q14; have HX18 := Aside0.mk (show Kd.R k25 25 w17 w.heap.size (fun _ => True) (.slice (some ⟨go14, 0, none⟩) y164.length co14) y164 from (by (with_reducible repeat (first | apply Kd.R_alloc | apply Kd.R_drewN | apply Kd.R_drew)); exact HO166.out)); obtain ⟨ce18, hcl18, hM18, hcc18, hfr18⟩ := Kd.R_elem HX18.out z25 (t157 : Int) (of_decide_eq_true (by first | (with_reducible assumption) | assumption)) (by have h_ : (t157 : Int) < ((y164.length : Int) : Int) := of_decide_eq_true (by first | (with_reducible assumption) | assumption); first | exact h_ | (have e_ := (Kd.R_reads' HO166.out).1; omega) | simpa using h_); obtain rfl := k25_openM hM18; have HP18 := Kd.R_seg HX18.out (t157 : Int) (of_decide_eq_true (by first | (with_reducible assumption) | assumption)) (by have h_ : (t157 : Int) < ((y164.length : Int) : Int) := of_decide_eq_true (by first | (with_reducible assumption) | assumption); first | exact h_ | (have e_ := (Kd.R_reads' HO166.out).1; omega) | simpa using h_) (seg := [.int .i64 a2]) (j := 2) hcl18 hcc18 (show 3 ≤ 3 from by decide) (x' := (⟨(rd_T25 y164 t157).f0, (rd_T25 y164 t157).f1, a2⟩ : S25)) (k25_mkM _ _ _ (⟨(rd_T25 y164 t157).f0, (rd_T25 y164 t157).f1, a2⟩ : S25) ) (fun _ hk => hk); have hx18_2 := hcc18 2 _ rfl; (try simp only [show (k25).sz = 3 from rfl, Nat.mul_one, Nat.add_zero] at hx18_2); have hf18_2 := hfr18 2; (try simp only [show (k25).sz = 3 from rfl, Nat.mul_one, Nat.add_zero] at hf18_2); clear hcl18 hcc18 hfr18 hM18) | ((with_reducible refine gate_store (t := 23) (p := 37) rfl ?_); refine store_event (t := 23) (p := 37) (v := ?vo_w19) (w1 := (w17.setCell ⟨go14, (t157 : Int).toNat * 3 + 2, none⟩ (.int .i64 a2))) ?hg ?ho ?hn ?hr ?_; (case ho => rfl); (case hg => rfl); (case hn => rfl); (case hr => first | (go_simp; done) | (go_simp; rfl)); intro w19 hw; have hg : w17.grownBy w19 (some go14) := (by rw [hw]; exact HP18.2); have hp_ : Kd.R k25 25 w19 w.heap.size (fun _ => True) (.slice (some ⟨go14, 0, none⟩) y164.length co14) y167 := (by rw [hw, Ny167.out]; exact HP18.1); clear HP18; have n0_ := Aside0.mk (hp_); have n1_ := Aside0.mk ((by rw [hw]; exact below_set (HB.out) GB14.out : Below w.heap.size w w19)); clear HO166; clear HB; have HO166 := n0_; have HB := n1_; clear n0_ n1_; clear hg hw hp_))
                go_ret2
                exact ⟨_, by first | rfl | (simp [errW_none, errW_some] <;> rfl) | (simp [*, errW_none, errW_some] <;> rfl), by (with_reducible repeat (first | apply Kd.R_alloc | apply Kd.R_drewN | apply Kd.R_drew)); exact HO166.out, by repeat (first | (with_reducible first | exact HB.out | apply below_alloc | apply pw_below_drewN | apply below_drew1) | exact HB.out)⟩
              · rw [if_neg c13] at H
                exact absurd H (by simp)
            · rw [if_neg c12] at H
              exact absurd H (by simp)
          · replace c11 := Bool.eq_false_iff.mpr c11
            subst c11
            have H1 : (some (([] : List (S25)), 12)) = some (r1, r2) := by rw [if_neg (show ¬ (false = true) by decide)] at H; exact H
            clear H
            have H := H1
            clear H1
            simp only [Option.some.injEq, Prod.mk.injEq] at H
            obtain ⟨rfl, rfl⟩ := H
            go_enter Tryd.func15, Tryd.ntmps15
            go_wp2_with (first | ((with_reducible refine gate_callee (f := 19) rfl ?_); refine goesL_ (some 14) rfl rfl Tryd.func19 (by kernel_rfl) rfl #[.slice A0 l0.length c0, .string a1] rfl (by (try simp only [List.map_toArray, List.map_cons, List.map_nil]); first | done | rfl | (simp only [List.length_drop, List.length_take]; rfl)) ?_; (with_reducible refine (instarref12_Find.calls k _ _ l0 a1 t157 _ ?side1 ?side2 A4.out).mono ?_); (case side1 => repeat (first | exact HR0.out | (with_reducible refine Kd.C_alloc ?_ _) | (with_reducible refine Kd.C_drewN ?_ _) | (with_reducible refine Kd.C_drew ?_))); (case side2 => exact HC0.out); rintro e w' ⟨rfl, ⟨nd, rfl⟩⟩; refine ⟨_, rfl, ?_⟩) | ((with_reducible refine gate_callee (f := 38) rfl ?_); refine goesL_ (some 18) rfl rfl Tryd.func38 (by kernel_rfl) rfl #[.int .i64 a2] rfl (by (try simp only [List.map_toArray, List.map_cons, List.map_nil]); first | done | rfl | (simp only [List.length_drop, List.length_take]; rfl)) ?_; (with_reducible refine (instarref03_Column.calls a2 true _ A6.out).mono ?_); rintro e w' ⟨rfl, ⟨nd, rfl⟩⟩; refine ⟨_, rfl, ?_⟩; have p159 : 0 ≤ (t157 : Int) := of_decide_eq_true (by first | (with_reducible assumption) | assumption); have q159 : t157 < (l0.length : Int) := of_decide_eq_true (by first | (with_reducible assumption) | assumption); obtain ⟨ad159, e159, hx159_0, hx159_1, hx159_2⟩ := at_T25 HR0.out t157 p159 q159; cases e159; replace p159 := eq_true p159; replace q159 := eq_true q159) | ((with_reducible refine gate_callee (f := 39) rfl ?_); refine goesL_ (some 27) rfl rfl Tryd.func39 (by kernel_rfl) rfl #[.int .i64 a2, .int .i64 ((rd_T25 l0 t157).f2)] rfl (by (try simp only [List.map_toArray, List.map_cons, List.map_nil]); first | done | rfl | (simp only [List.length_drop, List.length_take]; rfl)) ?_; (with_reducible refine (instarref03_Wider.calls a2 ((rd_T25 l0 t157).f2) false _ A10.out).mono ?_); rintro e w' ⟨rfl, ⟨nd, rfl⟩⟩; refine ⟨_, rfl, ?_⟩))
            go_ret2
            exact ⟨_, by first | rfl | (simp [errW_none, errW_some] <;> rfl) | (simp [*, errW_none, errW_some] <;> rfl), by first | exact Kd.R_nil _ _ _ _ _ | exact Kd.N_nil _ _ _ _ _ | exact Kd.V_nil _ _ _ _ _ | exact Kd.Q_nil _ _ _ _ _ | exact Kd.S_nil _ _ _ _ _, by repeat (first | (with_reducible first | exact HB.out | apply below_alloc | apply pw_below_drewN | apply below_drew1) | exact HB.out)⟩
        · rw [if_neg c9] at H
          exact absurd H (by simp)
      · rw [if_neg c8] at H
        exact absurd H (by simp)
    · replace c7 := Bool.eq_false_iff.mpr c7
      subst c7
      have H1 : (some (([] : List (S25)), 1)) = some (r1, r2) := by rw [if_neg (show ¬ (false = true) by decide)] at H; exact H
      clear H
      have H := H1
      clear H1
      simp only [Option.some.injEq, Prod.mk.injEq] at H
      obtain ⟨rfl, rfl⟩ := H
      go_enter Tryd.func15, Tryd.ntmps15
      go_wp2_with (first | ((with_reducible refine gate_callee (f := 19) rfl ?_); refine goesL_ (some 14) rfl rfl Tryd.func19 (by kernel_rfl) rfl #[.slice A0 l0.length c0, .string a1] rfl (by (try simp only [List.map_toArray, List.map_cons, List.map_nil]); first | done | rfl | (simp only [List.length_drop, List.length_take]; rfl)) ?_; (with_reducible refine (instarref12_Find.calls k _ _ l0 a1 t157 _ ?side1 ?side2 A4.out).mono ?_); (case side1 => repeat (first | exact HR0.out | (with_reducible refine Kd.C_alloc ?_ _) | (with_reducible refine Kd.C_drewN ?_ _) | (with_reducible refine Kd.C_drew ?_))); (case side2 => exact HC0.out); rintro e w' ⟨rfl, ⟨nd, rfl⟩⟩; refine ⟨_, rfl, ?_⟩) | ((with_reducible refine gate_callee (f := 38) rfl ?_); refine goesL_ (some 18) rfl rfl Tryd.func38 (by kernel_rfl) rfl #[.int .i64 a2] rfl (by (try simp only [List.map_toArray, List.map_cons, List.map_nil]); first | done | rfl | (simp only [List.length_drop, List.length_take]; rfl)) ?_; (with_reducible refine (instarref03_Column.calls a2 false _ A6.out).mono ?_); rintro e w' ⟨rfl, ⟨nd, rfl⟩⟩; refine ⟨_, rfl, ?_⟩))
      go_ret2
      exact ⟨_, by first | rfl | (simp [errW_none, errW_some] <;> rfl) | (simp [*, errW_none, errW_some] <;> rfl), by first | exact Kd.R_nil _ _ _ _ _ | exact Kd.N_nil _ _ _ _ _ | exact Kd.V_nil _ _ _ _ _ | exact Kd.Q_nil _ _ _ _ _ | exact Kd.S_nil _ _ _ _ _, by repeat (first | (with_reducible first | exact HB.out | apply below_alloc | apply pw_below_drewN | apply below_drew1) | exact HB.out)⟩

/-! ### instarref12_Same: function 16 -/
def instarref12_Same.l0 : Nat → List (S25) → List (S25) → Int → Option (Bool)
  | 0, _, _, _ => none
  | k + 1, x0, x1, x5 => if x5 < (x0.length : Int) then (if 0 ≤ x5 then (if x5 < (x1.length : Int) then (if (!(((rd_T25 x0 x5).f0) == ((rd_T25 x1 x5).f0)) || (!((((rd_T25 x0 x5).f1).toList) == (((rd_T25 x1 x5).f1).toList)) || (!(((rd_T25 x0 x5).f2) == ((rd_T25 x1 x5).f2))))) = true then (some false) else (instarref12_Same.l0 k x0 x1 (wrap64 (x5 + 1)))) else (none)) else (none)) else (some true)
def instarref12_Same.f (k : Nat) (l0 : List (S25)) (l1 : List (S25)) : Option (Bool) := if (l0.length : Int) = (l1.length : Int) then (instarref12_Same.l0 k l0 l1 0) else (some false)
theorem instarref12_Same.mono_l : ∀ k, (∀ y0 y1 y2, LeO (instarref12_Same.l0 k y0 y1 y2) (instarref12_Same.l0 (k + 1) y0 y1 y2))
  | 0 => fun _ _ _ r h => by simp [instarref12_Same.l0] at h
  | k + 1 => by
    have ih0 := instarref12_Same.mono_l k
    · intro y0 y1 y2
      unfold instarref12_Same.l0
      repeat' first
      | (with_reducible exact ih0 _ _ _)
      | (with_reducible exact LeO.refl _)
      | (with_reducible exact LeO.none _)
      | (with_reducible refine LeO.ite ?_ ?_)
      | (with_reducible refine LeO.bind ?_ (fun _ => ?_))
      | exact ih0 _ _ _
      | exact LeO.none _
      | refine LeO.ite ?_ ?_
      | refine LeO.bind ?_ (fun _ => ?_)
theorem instarref12_Same.mono : ∀ a0 a1 k, LeO (instarref12_Same.f k a0 a1) (instarref12_Same.f (k + 1) a0 a1) := by
  intro a0 a1 k
  have ih0 := instarref12_Same.mono_l k
  unfold instarref12_Same.f
  repeat' first
      | (with_reducible exact ih0 _ _ _)
      | (with_reducible exact LeO.refl _)
      | (with_reducible exact LeO.none _)
      | (with_reducible refine LeO.ite ?_ ?_)
      | (with_reducible refine LeO.bind ?_ (fun _ => ?_))
      | exact ih0 _ _ _
      | exact LeO.none _
      | refine LeO.ite ?_ ?_
      | refine LeO.bind ?_ (fun _ => ?_)
set_option maxHeartbeats 8000000 in
set_option maxRecDepth 100000 in
theorem instarref12_Same.calls (k : Nat) (A0 : Option Addr) (c0 : Nat) (l0 : List (S25)) (A1 : Option Addr) (c1 : Nat) (l1 : List (S25)) (r : Bool) (w : World) (hr0 : Kd.C k25 w A0 l0.length l0) (hc0 : l0.length ≤ c0) (hr1 : Kd.C k25 w A1 l1.length l1) (hc1 : l1.length ≤ c1) (h : instarref12_Same.f k l0 l1 = some r) :
    Calls Tryd.prog 16 #[.slice A0 l0.length c0, .slice A1 l1.length c1] w fun e w' => e = .returned (.bool r) ∧ Drawn0 w w' := by
  have hu25 := Tryd.underlying25
  have HR0 := Aside0.mk hr0
  have HC0 := Aside0.mk hc0
  clear hr0 hc0
  have HR1 := Aside0.mk hr1
  have HC1 := Aside0.mk hc1
  clear hr1 hc1
  have H : (if (l0.length : Int) = (l1.length : Int) then (instarref12_Same.l0 k l0 l1 0) else (some false)) = some r := h
  clear h
  by_cases c3 : (l0.length : Int) = (l1.length : Int)
  · rw [if_pos c3] at H
    have c3b0 : ((l0.length : Int) == (l1.length : Int)) = true := beq_iff_eq.mpr c3
    have c3b1 : ((l0.length : Int) != (l1.length : Int)) = false := bne_eq_false_iff_eq.mpr c3
    have c3b2 : (l0.length == l1.length) = true := by first | simpa using c3 | (simp at c3 ⊢; omega)
    clear c3
    have H' := Aside0.mk H
    clear H
    go_enter Tryd.func16, Tryd.ntmps16
    go_wp2
    repeat (go_quiet (fail); try go_wp2)
    go_loopg [5] k (fun kq v5 w' => ∃ (x5_1 : Int), v5 = .int .i64 x5_1 ∧ Aside0 (instarref12_Same.l0 kq l0 l1 x5_1 = some r) ∧ Aside0 (kq ≤ k) ∧ Drawn0 w w')
    case atStart => exact ⟨(0), (by first | rfl | (simp; done) | (simp [*]; done)), H', ⟨Nat.le_refl _⟩, by repeat (first | exact Drawn0.refl _ | apply Drawn0.step)⟩
    case round =>
      clear H'
      try clear c1
      try clear p2
      try clear c3
      try clear c3b0
      try clear c3b1
      try clear c3b2
      obtain ⟨x5_1, rfl, HA, HK1, ⟨m1, rfl⟩⟩ := hrel
      cases gk with
      | zero => exact absurd HA.out (by simp [instarref12_Same.l0])
      | succ k1 =>
        have H := HA.out
        clear HA
        simp only [instarref12_Same.l0] at H
        by_cases c4 : x5_1 < (l0.length : Int)
        · rw [if_pos c4] at H
          have c4b0 : decide (x5_1 < (l0.length : Int)) = true := decide_eq_true c4
          clear c4
          by_cases c5 : 0 ≤ x5_1
          · rw [if_pos c5] at H
            have c5b0 : decide (0 ≤ x5_1) = true := decide_eq_true c5
            clear c5
            by_cases c6 : x5_1 < (l1.length : Int)
            · rw [if_pos c6] at H
              have c6b0 : decide (x5_1 < (l1.length : Int)) = true := decide_eq_true c6
              clear c6
              by_cases c7 : (!(((rd_T25 l0 x5_1).f0) == ((rd_T25 l1 x5_1).f0)) || (!((((rd_T25 l0 x5_1).f1).toList) == (((rd_T25 l1 x5_1).f1).toList)) || (!(((rd_T25 l0 x5_1).f2) == ((rd_T25 l1 x5_1).f2))))) = true
              · rw [if_pos c7] at H
                have c7b0 : (!(((rd_T25 l0 x5_1).f0) == ((rd_T25 l1 x5_1).f0)) || (!((((rd_T25 l0 x5_1).f1).toList) == (((rd_T25 l1 x5_1).f1).toList)) || (!(((rd_T25 l0 x5_1).f2) == ((rd_T25 l1 x5_1).f2))))) = true := c7
                clear c7
                obtain rfl := Option.some.inj H
                have p168 : 0 ≤ (x5_1 : Int) := of_decide_eq_true (by first | (with_reducible assumption) | assumption)
                have q168 : x5_1 < (l0.length : Int) := of_decide_eq_true (by first | (with_reducible assumption) | assumption)
                obtain ⟨ad168, e168, hx168_0, hx168_1, hx168_2⟩ := at_T25 HR0.out x5_1 p168 q168
                cases e168
                replace p168 := eq_true p168
                replace q168 := eq_true q168
                have p169 : 0 ≤ (x5_1 : Int) := of_decide_eq_true (by first | (with_reducible assumption) | assumption)
                have q169 : x5_1 < (l1.length : Int) := of_decide_eq_true (by first | (with_reducible assumption) | assumption)
                obtain ⟨ad169, e169, hx169_0, hx169_1, hx169_2⟩ := at_T25 HR1.out x5_1 p169 q169
                cases e169
                replace p169 := eq_true p169
                replace q169 := eq_true q169
                go_wp2
                repeat (go_quiet (fail); try go_wp2)
                go_ret
                exact ⟨by first | rfl | (simp; done) | (simp [*]; done), by repeat (first | exact Drawn0.refl _ | apply Drawn0.step)⟩
              · rw [if_neg c7] at H
                have c7b0 : (!(((rd_T25 l0 x5_1).f0) == ((rd_T25 l1 x5_1).f0)) || (!((((rd_T25 l0 x5_1).f1).toList) == (((rd_T25 l1 x5_1).f1).toList)) || (!(((rd_T25 l0 x5_1).f2) == ((rd_T25 l1 x5_1).f2))))) = false := by simpa using c7
                clear c7
                have H' := Aside0.mk H
                clear H
                have p168 : 0 ≤ (x5_1 : Int) := of_decide_eq_true (by first | (with_reducible assumption) | assumption)
                have q168 : x5_1 < (l0.length : Int) := of_decide_eq_true (by first | (with_reducible assumption) | assumption)
                obtain ⟨ad168, e168, hx168_0, hx168_1, hx168_2⟩ := at_T25 HR0.out x5_1 p168 q168
                cases e168
                replace p168 := eq_true p168
                replace q168 := eq_true q168
                have p169 : 0 ≤ (x5_1 : Int) := of_decide_eq_true (by first | (with_reducible assumption) | assumption)
                have q169 : x5_1 < (l1.length : Int) := of_decide_eq_true (by first | (with_reducible assumption) | assumption)
                obtain ⟨ad169, e169, hx169_0, hx169_1, hx169_2⟩ := at_T25 HR1.out x5_1 p169 q169
                cases e169
                replace p169 := eq_true p169
                replace q169 := eq_true q169
                go_wp2
                repeat (go_quiet (fail); try go_wp2)
                go_roundg k1
                case measure => have := HK1.out; omega
                case rel => exact ⟨(wrap64 (x5_1 + 1)), (by first | rfl | (simp; done) | (simp [*]; done)), H', ⟨by have := HK1.out; omega⟩, by repeat (first | exact Drawn0.refl _ | apply Drawn0.step)⟩
            · rw [if_neg c6] at H
              exact absurd H (by simp)
          · rw [if_neg c5] at H
            exact absurd H (by simp)
        · rw [if_neg c4] at H
          have c4b0 : decide (x5_1 < (l0.length : Int)) = false := decide_eq_false c4
          clear c4
          obtain rfl := Option.some.inj H
          go_wp2
          repeat (go_quiet (fail); try go_wp2)
          go_ret
          exact ⟨by first | rfl | (simp; done) | (simp [*]; done), by repeat (first | exact Drawn0.refl _ | apply Drawn0.step)⟩
  · rw [if_neg c3] at H
    have c3b0 : ((l0.length : Int) == (l1.length : Int)) = false := beq_eq_false_iff_ne.mpr c3
    have c3b1 : ((l0.length : Int) != (l1.length : Int)) = true := bne_iff_ne.mpr c3
    have c3b2 : (l0.length == l1.length) = false := by first | simpa using c3 | (simp at c3 ⊢; omega)
    obtain rfl := Option.some.inj H
    go_enter Tryd.func16, Tryd.ntmps16
    go_wp2
    repeat (go_quiet (fail); try go_wp2)
    go_ret
    exact ⟨by first | rfl | (simp; done) | (simp [*]; done), by repeat (first | exact Drawn0.refl _ | apply Drawn0.step)⟩

end Go.Proofs.YtkggdnnhgafopaaDoor.Kp
