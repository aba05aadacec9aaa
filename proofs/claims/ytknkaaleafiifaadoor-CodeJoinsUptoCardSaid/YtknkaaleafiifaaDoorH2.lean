/- What each function comes to, a contract of its call each (and the row of a law out of its plain statement); no condition beyond what stands in each. -/
import Derived.Test.YtknkaaleafiifaaDoorH0
import Derived.Test.YtknkaaleafiifaaDoorH1
namespace Go.Proofs.YtknkaaleafiifaaDoor.Hp
open Go.RowKit Go.Proofs.YtknkaaleafiifaaDoorW.PrintWords Go.Proofs.YtknkaaleafiifaaDoorW.PrintLast Go.Proofs.YtknkaaleafiifaaDoorW.PrintMore
open Go.Proofs.YtknkaaleafiifaaDoor.Kp
attribute [local go_sem] max2_int min2_int max_two min_two max_three min_three max_four min_four   -- for this text's walks alone
set_option linter.unusedVariables false
set_option linter.unusedSimpArgs false

/-! ### instarlaw04_CodeBack: function 4 -/
mutual
def instarlaw04_CodeBack.j0 : Nat → List (S32) → ByteArray → Bool → Option (Bool)
  | 0, _, _, _ => none
  | k + 1, x0, x1, x25 => if x25 = true then ((instarlaw04_alive.f k).bind fun t137 => (some t137)) else (instarlaw04_CodeBack.l0 k x0 x1 true 0)
def instarlaw04_CodeBack.l0 : Nat → List (S32) → ByteArray → Bool → Int → Option (Bool)
  | 0, _, _, _, _ => none
  | k + 1, x0, x1, x6, x7 => if x7 < (x0.length : Int) then (if 0 ≤ x7 then ((instarref03_Right.f ((rd_T32 x0 x7).f0) ((rd_T32 x0 x7).f1) ((rd_T32 x0 x7).f2)).bind fun t139 => (if x6 = true then (instarlaw04_CodeBack.l0 k x0 x1 t139 (wrap64 (x7 + 1))) else (instarlaw04_CodeBack.l0 k x0 x1 false (wrap64 (x7 + 1))))) else (none)) else ((code_Encode.f x0).bind fun bt140 => ((code_Decode.f k bt140.1).bind fun bt142 => (if x6 = true then (if bt140.2 = 0 then (if bt142.2 = 0 then ((instarref04_Same.f k x0 bt142.1).bind fun t146 => (if t146 = true then (instarlaw04_CodeBack.j2 k x1 false) else (instarlaw04_CodeBack.j2 k x1 true))) else (instarlaw04_CodeBack.j2 k x1 true)) else (instarlaw04_CodeBack.j2 k x1 true)) else (if bt140.2 = 1 then (instarlaw04_CodeBack.j2 k x1 (bt140.1.toList != ([] : List UInt8))) else (instarlaw04_CodeBack.j2 k x1 true)))))
def instarlaw04_CodeBack.j2 : Nat → ByteArray → Bool → Option (Bool)
  | 0, _, _ => none
  | k + 1, x1, x78 => if x78 = true then (some false) else ((code_Decode.f k x1).bind fun bt147 => ((code_Encode.f bt147.1).bind fun bt151 => ((instarlaw04_alive.f k).bind fun t153 => (if t153 = true then (if bt147.2 = 0 then (if bt151.2 = 0 then (some (bt151.1.toList == x1.toList)) else (some false)) else (some true)) else (some false)))))
end
def instarlaw04_CodeBack.f (k : Nat) (l0 : List (S32)) (a1 : ByteArray) : Option (Bool) := (instarlaw04_fits.f k l0).bind fun t136 => (if t136 = true then (instarlaw04_CodeBack.j0 k l0 a1 (decide ((a1.size : Int) > 600))) else (instarlaw04_CodeBack.j0 k l0 a1 true))
theorem instarlaw04_CodeBack.mono_l : ∀ k, (∀ y0 y1 y2, LeO (instarlaw04_CodeBack.j0 k y0 y1 y2) (instarlaw04_CodeBack.j0 (k + 1) y0 y1 y2)) ∧ (∀ y0 y1 y2 y3, LeO (instarlaw04_CodeBack.l0 k y0 y1 y2 y3) (instarlaw04_CodeBack.l0 (k + 1) y0 y1 y2 y3)) ∧ (∀ y0 y1, LeO (instarlaw04_CodeBack.j2 k y0 y1) (instarlaw04_CodeBack.j2 (k + 1) y0 y1))
  | 0 => ⟨fun _ _ _ r h => by simp [instarlaw04_CodeBack.j0] at h, fun _ _ _ _ r h => by simp [instarlaw04_CodeBack.l0] at h, fun _ _ r h => by simp [instarlaw04_CodeBack.j2] at h⟩
  | k + 1 => by
    obtain ⟨ih0, ih1, ih2⟩ := instarlaw04_CodeBack.mono_l k
    refine ⟨?_, ?_, ?_⟩
    · intro y0 y1 y2
      unfold instarlaw04_CodeBack.j0
      repeat' first
      | (with_reducible exact ih0 _ _ _)
      | (with_reducible exact ih1 _ _ _ _)
      | (with_reducible exact ih2 _ _)
      | (with_reducible exact code_Decode.mono _ _)
      | (with_reducible exact instarlaw04_alive.mono _)
      | (with_reducible exact instarlaw04_fits.mono _ _)
      | (with_reducible exact instarref04_Same.mono _ _ _)
      | (with_reducible exact LeO.refl _)
      | (with_reducible exact LeO.none _)
      | (with_reducible refine LeO.ite ?_ ?_)
      | (with_reducible refine LeO.bind ?_ (fun _ => ?_))
      | exact ih0 _ _ _
      | exact ih1 _ _ _ _
      | exact ih2 _ _
      | exact code_Decode.mono _ _
      | exact instarlaw04_alive.mono _
      | exact instarlaw04_fits.mono _ _
      | exact instarref04_Same.mono _ _ _
      | exact LeO.none _
      | refine LeO.ite ?_ ?_
      | refine LeO.bind ?_ (fun _ => ?_)
    · intro y0 y1 y2 y3
      unfold instarlaw04_CodeBack.l0
      repeat' first
      | (with_reducible exact ih0 _ _ _)
      | (with_reducible exact ih1 _ _ _ _)
      | (with_reducible exact ih2 _ _)
      | (with_reducible exact code_Decode.mono _ _)
      | (with_reducible exact instarlaw04_alive.mono _)
      | (with_reducible exact instarlaw04_fits.mono _ _)
      | (with_reducible exact instarref04_Same.mono _ _ _)
      | (with_reducible exact LeO.refl _)
      | (with_reducible exact LeO.none _)
      | (with_reducible refine LeO.ite ?_ ?_)
      | (with_reducible refine LeO.bind ?_ (fun _ => ?_))
      | exact ih0 _ _ _
      | exact ih1 _ _ _ _
      | exact ih2 _ _
      | exact code_Decode.mono _ _
      | exact instarlaw04_alive.mono _
      | exact instarlaw04_fits.mono _ _
      | exact instarref04_Same.mono _ _ _
      | exact LeO.none _
      | refine LeO.ite ?_ ?_
      | refine LeO.bind ?_ (fun _ => ?_)
    · intro y0 y1
      unfold instarlaw04_CodeBack.j2
      repeat' first
      | (with_reducible exact ih0 _ _ _)
      | (with_reducible exact ih1 _ _ _ _)
      | (with_reducible exact ih2 _ _)
      | (with_reducible exact code_Decode.mono _ _)
      | (with_reducible exact instarlaw04_alive.mono _)
      | (with_reducible exact instarlaw04_fits.mono _ _)
      | (with_reducible exact instarref04_Same.mono _ _ _)
      | (with_reducible exact LeO.refl _)
      | (with_reducible exact LeO.none _)
      | (with_reducible refine LeO.ite ?_ ?_)
      | (with_reducible refine LeO.bind ?_ (fun _ => ?_))
      | exact ih0 _ _ _
      | exact ih1 _ _ _ _
      | exact ih2 _ _
      | exact code_Decode.mono _ _
      | exact instarlaw04_alive.mono _
      | exact instarlaw04_fits.mono _ _
      | exact instarref04_Same.mono _ _ _
      | exact LeO.none _
      | refine LeO.ite ?_ ?_
      | refine LeO.bind ?_ (fun _ => ?_)
theorem instarlaw04_CodeBack.mono : ∀ a0 a1 k, LeO (instarlaw04_CodeBack.f k a0 a1) (instarlaw04_CodeBack.f (k + 1) a0 a1) := by
  intro a0 a1 k
  obtain ⟨ih0, ih1, ih2⟩ := instarlaw04_CodeBack.mono_l k
  unfold instarlaw04_CodeBack.f
  repeat' first
      | (with_reducible exact ih0 _ _ _)
      | (with_reducible exact ih1 _ _ _ _)
      | (with_reducible exact ih2 _ _)
      | (with_reducible exact code_Decode.mono _ _)
      | (with_reducible exact instarlaw04_alive.mono _)
      | (with_reducible exact instarlaw04_fits.mono _ _)
      | (with_reducible exact instarref04_Same.mono _ _ _)
      | (with_reducible exact LeO.refl _)
      | (with_reducible exact LeO.none _)
      | (with_reducible refine LeO.ite ?_ ?_)
      | (with_reducible refine LeO.bind ?_ (fun _ => ?_))
      | exact ih0 _ _ _
      | exact ih1 _ _ _ _
      | exact ih2 _ _
      | exact code_Decode.mono _ _
      | exact instarlaw04_alive.mono _
      | exact instarlaw04_fits.mono _ _
      | exact instarref04_Same.mono _ _ _
      | exact LeO.none _
      | refine LeO.ite ?_ ?_
      | refine LeO.bind ?_ (fun _ => ?_)
set_option maxHeartbeats 8000000 in
set_option maxRecDepth 100000 in
theorem instarlaw04_CodeBack.calls (k : Nat) (A0 : Option Addr) (c0 : Nat) (l0 : List (S32)) (a1 : ByteArray) (r : Bool) (w : World) (hr0 : Kd.C k32 w A0 l0.length l0) (hc0 : l0.length ≤ c0) (h : instarlaw04_CodeBack.f k l0 a1 = some r) :
    Calls Tryd.prog 4 #[.slice A0 l0.length c0, .string a1] w fun e w' => e = .returned (.bool r) ∧ Below w.heap.size w w' := by
  have hu32 := Tryd.underlying32
  have HR0 := Aside0.mk hr0
  have HC0 := Aside0.mk hc0
  clear hr0 hc0
  have HB := Aside0.mk (Below.refl w.heap.size w)
  have H : ((instarlaw04_fits.f k l0).bind fun t136 => (if t136 = true then (instarlaw04_CodeBack.j0 k l0 a1 (decide ((a1.size : Int) > 600))) else (instarlaw04_CodeBack.j0 k l0 a1 true))) = some r := h
  clear h
  replace H := Option.bind_eq_some_iff.mp H
  obtain ⟨t136, A30, H⟩ := H
  replace H : (if t136 = true then (instarlaw04_CodeBack.j0 k l0 a1 (decide ((a1.size : Int) > 600))) else (instarlaw04_CodeBack.j0 k l0 a1 true)) = some r := H
  have A3 := Aside0.mk A30
  clear A30
  have HC4 := Aside0.mk H
  clear H
  go_enter Tryd.func4, Tryd.ntmps4
  go_upto_region 2 with (first | ((with_reducible refine gate_callee (f := 7) rfl ?_); refine goesL_ (some 18) rfl rfl Tryd.func7 (by kernel_rfl) rfl #[.slice A0 l0.length c0] rfl (by (try simp only [List.map_toArray, List.map_cons, List.map_nil]); first | done | rfl | (simp only [List.length_drop, List.length_take]; rfl)) ?_; (with_reducible refine (instarlaw04_fits.calls k _ _ l0 t136 _ ?side1 ?side2 A3.out).mono ?_); (case side1 => repeat (first | exact HR0.out | (with_reducible refine Kd.C_alloc ?_ _) | (with_reducible refine Kd.C_drewN ?_ _) | (with_reducible refine Kd.C_drew ?_))); (case side2 => exact HC0.out); rintro e w' ⟨rfl, ⟨nd, rfl⟩⟩; refine ⟨_, rfl, ?_⟩))
  (try simp only [Act.put, List.setIfInBounds_toArray, List.set_cons_zero, List.set_cons_succ])
  go_cut [25] (fun v25 wc => ∃ (kq : Nat) (x25_3 : Bool), v25 = .bool x25_3 ∧ Aside0 (instarlaw04_CodeBack.j0 kq l0 a1 x25_3 = some r) ∧ Aside0 (kq ≤ k) ∧ Aside0 (Below w.heap.size w wc))
  case first =>
    have H := HC4.out
    clear HC4
    by_cases c5 : t136 = true
    · subst c5
      have H1 : (instarlaw04_CodeBack.j0 k l0 a1 (decide ((a1.size : Int) > 600))) = some r := by rw [if_pos rfl] at H; exact H
      clear H
      have H := H1
      clear H1
      have H' := Aside0.mk H
      clear H
      go_wp2
      go_meet
      case rel => exact ⟨_, (decide ((a1.size : Int) > 600)), (by first | rfl | (simp; done) | (simp [*]; done)), H', ⟨by first | omega | exact Nat.le_refl _⟩, ⟨by repeat (first | (with_reducible first | exact HB.out | apply below_alloc | apply pw_below_drewN | apply below_drew1) | exact HB.out)⟩⟩
    · replace c5 := Bool.eq_false_iff.mpr c5
      subst c5
      have H1 : (instarlaw04_CodeBack.j0 k l0 a1 true) = some r := by rw [if_neg (show ¬ (false = true) by decide)] at H; exact H
      clear H
      have H := H1
      clear H1
      have H' := Aside0.mk H
      clear H
      go_wp2
      go_meet
      case rel => exact ⟨_, (true), (by first | rfl | (simp; done) | (simp [*]; done)), H', ⟨by first | omega | exact Nat.le_refl _⟩, ⟨by repeat (first | (with_reducible first | exact HB.out | apply below_alloc | apply pw_below_drewN | apply below_drew1) | exact HB.out)⟩⟩
  case rest =>
    clear HC4
    try clear p2
    try clear c4
    try clear c5
    obtain ⟨kq, x25_3, rfl, HA, HJ3, HB⟩ := hcut
    cases kq with
    | zero => exact absurd HA.out (by simp [instarlaw04_CodeBack.j0])
    | succ kj3 =>
      have H := HA.out
      clear HA
      simp only [instarlaw04_CodeBack.j0] at H
      by_cases c6 : x25_3 = true
      · subst c6
        have H1 : ((instarlaw04_alive.f kj3).bind fun t137 => (some t137)) = some r := by rw [if_pos rfl] at H; exact H
        clear H
        have H := H1
        clear H1
        replace H := Option.bind_eq_some_iff.mp H
        obtain ⟨t137, A70, H⟩ := H
        replace H : (some t137) = some r := H
        have A7 := Aside0.mk A70
        clear A70
        obtain rfl := Option.some.inj H
        go_wp2_with (first | ((with_reducible refine gate_callee (f := 8) rfl ?_); refine goesL_ (some 26) rfl rfl Tryd.func8 (by kernel_rfl) rfl #[] rfl (by (try simp only [List.map_toArray, List.map_cons, List.map_nil]); first | done | rfl | (simp only [List.length_drop, List.length_take]; rfl)) ?_; (with_reducible refine (instarlaw04_alive.calls kj3  t137 _ A7.out).mono ?_); rintro e w8 ⟨rfl, hb⟩; refine ⟨_, rfl, ?_⟩; have n0_ := Aside0.mk (below_step (by repeat (first | (with_reducible first | exact HB.out | apply below_alloc | apply pw_below_drewN | apply below_drew1) | exact HB.out)) hb); clear HB; have HB := n0_; clear n0_; (try clear hb); (try clear hb2); (try clear hk); (try clear hi)))
        go_ret
        exact ⟨by first | rfl | (simp [errW_none, errW_some] <;> rfl) | (simp [*, errW_none, errW_some] <;> rfl), by repeat (first | (with_reducible first | exact HB.out | apply below_alloc | apply pw_below_drewN | apply below_drew1) | exact HB.out)⟩
      · replace c6 := Bool.eq_false_iff.mpr c6
        subst c6
        have H1 : (instarlaw04_CodeBack.l0 kj3 l0 a1 true 0) = some r := by rw [if_neg (show ¬ (false = true) by decide)] at H; exact H
        clear H
        have H := H1
        clear H1
        have H' := Aside0.mk H
        clear H
        go_wp2
        go_loopg [6, 7] kj3 (fun kq v6 v7 w' => ∃ (x6_2 : Bool) (x7_2 : Int), v6 = .bool x6_2 ∧ v7 = .int .i64 x7_2 ∧ Aside0 (instarlaw04_CodeBack.l0 kq l0 a1 x6_2 x7_2 = some r) ∧ Aside0 (kq ≤ kj3) ∧ Aside0 (Below w.heap.size w w'))
        case atStart => exact ⟨(true), (0), (by first | rfl | (simp; done) | (simp [*]; done)), (by first | rfl | (simp; done) | (simp [*]; done)), H', ⟨Nat.le_refl _⟩, ⟨by repeat (first | (with_reducible first | exact HB.out | apply below_alloc | apply pw_below_drewN | apply below_drew1) | exact HB.out)⟩⟩
        case round =>
          clear H'
          try clear p2
          try clear c4
          try clear c5
          try clear c6
          try clear c7
          try clear c8
          try clear p2
          obtain ⟨x6_2, x7_2, rfl, rfl, HA, HK2, HB⟩ := hrel
          cases gk with
          | zero => exact absurd HA.out (by simp [instarlaw04_CodeBack.l0])
          | succ k2 =>
            have H := HA.out
            clear HA
            simp only [instarlaw04_CodeBack.l0] at H
            by_cases c9 : x7_2 < (l0.length : Int)
            · rw [if_pos c9] at H
              have c9b0 : decide (x7_2 < (l0.length : Int)) = true := decide_eq_true c9
              clear c9
              by_cases c10 : 0 ≤ x7_2
              · rw [if_pos c10] at H
                have c10b0 : decide (0 ≤ x7_2) = true := decide_eq_true c10
                clear c10
                replace H := Option.bind_eq_some_iff.mp H
                obtain ⟨t139, A110, H⟩ := H
                replace H : (if x6_2 = true then (instarlaw04_CodeBack.l0 k2 l0 a1 t139 (wrap64 (x7_2 + 1))) else (instarlaw04_CodeBack.l0 k2 l0 a1 false (wrap64 (x7_2 + 1)))) = some r := H
                have A11 := Aside0.mk A110
                clear A110
                by_cases c12 : x6_2 = true
                · subst c12
                  have H1 : (instarlaw04_CodeBack.l0 k2 l0 a1 t139 (wrap64 (x7_2 + 1))) = some r := by rw [if_pos rfl] at H; exact H
                  clear H
                  have H := H1
                  clear H1
                  have H' := Aside0.mk H
                  clear H
                  have p138 : 0 ≤ (x7_2 : Int) := of_decide_eq_true (by first | (with_reducible assumption) | assumption)
                  have q138 : x7_2 < (l0.length : Int) := of_decide_eq_true (by first | (with_reducible assumption) | assumption)
                  obtain ⟨ad138, e138, hx138_0, hx138_1, hx138_2⟩ := at_T32 HR0.out x7_2 p138 q138
                  cases e138
                  replace hx138_0 := (HB.out.cell (World.block_lt_of_cell? w _ hx138_0)).trans hx138_0
                  replace hx138_1 := (HB.out.cell (World.block_lt_of_cell? w _ hx138_1)).trans hx138_1
                  replace hx138_2 := (HB.out.cell (World.block_lt_of_cell? w _ hx138_2)).trans hx138_2
                  replace p138 := eq_true p138
                  replace q138 := eq_true q138
                  go_wp2_with (first | ((with_reducible refine gate_callee (f := 11) rfl ?_); refine goesL_ (some 37) rfl rfl Tryd.func11 (by kernel_rfl) rfl #[.agg #[.int .i64 ((rd_T32 l0 x7_2).f0), .int .i64 ((rd_T32 l0 x7_2).f1), .string ((rd_T32 l0 x7_2).f2)]] rfl (by (try simp only [List.map_toArray, List.map_cons, List.map_nil]); first | done | rfl | (simp only [List.length_drop, List.length_take]; rfl)) ?_; (with_reducible refine (instarref03_Right.calls ((rd_T32 l0 x7_2).f0) ((rd_T32 l0 x7_2).f1) ((rd_T32 l0 x7_2).f2) t139 _ A11.out).mono ?_); rintro e w13 ⟨rfl, hb⟩; refine ⟨_, rfl, ?_⟩; have n0_ := Aside0.mk (below_step (by repeat (first | (with_reducible first | exact HB.out | apply below_alloc | apply pw_below_drewN | apply below_drew1) | exact HB.out)) hb); clear HB; have HB := n0_; clear n0_; (try clear hb); (try clear hb2); (try clear hk); (try clear hi)))
                  go_roundg k2
                  case measure => have := HJ3.out; have := HK2.out; omega
                  case rel => exact ⟨(t139), (wrap64 (x7_2 + 1)), (by first | rfl | (simp; done) | (simp [*]; done)), (by first | rfl | (simp; done) | (simp [*]; done)), H', ⟨by have := HJ3.out; have := HK2.out; omega⟩, ⟨by repeat (first | (with_reducible first | exact HB.out | apply below_alloc | apply pw_below_drewN | apply below_drew1) | exact HB.out)⟩⟩
                · replace c12 := Bool.eq_false_iff.mpr c12
                  subst c12
                  have H1 : (instarlaw04_CodeBack.l0 k2 l0 a1 false (wrap64 (x7_2 + 1))) = some r := by rw [if_neg (show ¬ (false = true) by decide)] at H; exact H
                  clear H
                  have H := H1
                  clear H1
                  have H' := Aside0.mk H
                  clear H
                  have p138 : 0 ≤ (x7_2 : Int) := of_decide_eq_true (by first | (with_reducible assumption) | assumption)
                  have q138 : x7_2 < (l0.length : Int) := of_decide_eq_true (by first | (with_reducible assumption) | assumption)
                  obtain ⟨ad138, e138, hx138_0, hx138_1, hx138_2⟩ := at_T32 HR0.out x7_2 p138 q138
                  cases e138
                  replace hx138_0 := (HB.out.cell (World.block_lt_of_cell? w _ hx138_0)).trans hx138_0
                  replace hx138_1 := (HB.out.cell (World.block_lt_of_cell? w _ hx138_1)).trans hx138_1
                  replace hx138_2 := (HB.out.cell (World.block_lt_of_cell? w _ hx138_2)).trans hx138_2
                  replace p138 := eq_true p138
                  replace q138 := eq_true q138
                  go_wp2_with (first | ((with_reducible refine gate_callee (f := 11) rfl ?_); refine goesL_ (some 37) rfl rfl Tryd.func11 (by kernel_rfl) rfl #[.agg #[.int .i64 ((rd_T32 l0 x7_2).f0), .int .i64 ((rd_T32 l0 x7_2).f1), .string ((rd_T32 l0 x7_2).f2)]] rfl (by (try simp only [List.map_toArray, List.map_cons, List.map_nil]); first | done | rfl | (simp only [List.length_drop, List.length_take]; rfl)) ?_; (with_reducible refine (instarref03_Right.calls ((rd_T32 l0 x7_2).f0) ((rd_T32 l0 x7_2).f1) ((rd_T32 l0 x7_2).f2) t139 _ A11.out).mono ?_); rintro e w14 ⟨rfl, hb⟩; refine ⟨_, rfl, ?_⟩; have n0_ := Aside0.mk (below_step (by repeat (first | (with_reducible first | exact HB.out | apply below_alloc | apply pw_below_drewN | apply below_drew1) | exact HB.out)) hb); clear HB; have HB := n0_; clear n0_; (try clear hb); (try clear hb2); (try clear hk); (try clear hi)))
                  go_roundg k2
                  case measure => have := HJ3.out; have := HK2.out; omega
                  case rel => exact ⟨(false), (wrap64 (x7_2 + 1)), (by first | rfl | (simp; done) | (simp [*]; done)), (by first | rfl | (simp; done) | (simp [*]; done)), H', ⟨by have := HJ3.out; have := HK2.out; omega⟩, ⟨by repeat (first | (with_reducible first | exact HB.out | apply below_alloc | apply pw_below_drewN | apply below_drew1) | exact HB.out)⟩⟩
              · rw [if_neg c10] at H
                exact absurd H (by simp)
            · rw [if_neg c9] at H
              have c9b0 : decide (x7_2 < (l0.length : Int)) = false := decide_eq_false c9
              clear c9
              replace H := Option.bind_eq_some_iff.mp H
              obtain ⟨⟨t140, t141⟩, A150, H⟩ := H
              replace H : ((code_Decode.f k2 t140).bind fun bt142 => (if x6_2 = true then (if t141 = 0 then (if bt142.2 = 0 then ((instarref04_Same.f k2 l0 bt142.1).bind fun t146 => (if t146 = true then (instarlaw04_CodeBack.j2 k2 a1 false) else (instarlaw04_CodeBack.j2 k2 a1 true))) else (instarlaw04_CodeBack.j2 k2 a1 true)) else (instarlaw04_CodeBack.j2 k2 a1 true)) else (if t141 = 1 then (instarlaw04_CodeBack.j2 k2 a1 (t140.toList != ([] : List UInt8))) else (instarlaw04_CodeBack.j2 k2 a1 true)))) = some r := H
              have A15 := Aside0.mk A150
              clear A150
              replace H := Option.bind_eq_some_iff.mp H
              obtain ⟨⟨t142, t143⟩, A160, H⟩ := H
              replace H : (if x6_2 = true then (if t141 = 0 then (if t143 = 0 then ((instarref04_Same.f k2 l0 t142).bind fun t146 => (if t146 = true then (instarlaw04_CodeBack.j2 k2 a1 false) else (instarlaw04_CodeBack.j2 k2 a1 true))) else (instarlaw04_CodeBack.j2 k2 a1 true)) else (instarlaw04_CodeBack.j2 k2 a1 true)) else (if t141 = 1 then (instarlaw04_CodeBack.j2 k2 a1 (t140.toList != ([] : List UInt8))) else (instarlaw04_CodeBack.j2 k2 a1 true))) = some r := H
              have A16 := Aside0.mk A160
              clear A160
              have HC17 := Aside0.mk H
              clear H
              go_upto_region 12 with (first | ((with_reducible refine gate_callee (f := 9) rfl ?_); refine goesL_ (some 44) rfl rfl Tryd.func9 (by kernel_rfl) rfl #[.slice A0 l0.length c0] rfl (by (try simp only [List.map_toArray, List.map_cons, List.map_nil]); first | done | rfl | (simp only [List.length_drop, List.length_take]; rfl)) ?_; (with_reducible refine (code_Encode.calls _ _ l0 t140 t141 _ ?side1 ?side2 A15.out).mono ?_); (case side1 => repeat (first | exact (Kd.C_below HR0.out HB.out) | (with_reducible refine Kd.C_alloc ?_ _) | (with_reducible refine Kd.C_drewN ?_ _) | (with_reducible refine Kd.C_drew ?_))); (case side2 => exact HC0.out); rintro e w18 ⟨rfl, hb⟩; refine ⟨_, rfl, ?_⟩; have n0_ := Aside0.mk (below_step (by repeat (first | (with_reducible first | exact HB.out | apply below_alloc | apply pw_below_drewN | apply below_drew1) | exact HB.out)) hb); clear HB; have HB := n0_; clear n0_; (try clear hb); (try clear hb2); (try clear hk); (try clear hi)) | ((with_reducible refine gate_callee (f := 12) rfl ?_); refine goesL_ (some 49) rfl rfl Tryd.func12 (by kernel_rfl) rfl #[.string t140] rfl (by (try simp only [List.map_toArray, List.map_cons, List.map_nil]); first | done | rfl | (simp only [List.length_drop, List.length_take]; rfl)) ?_; (with_reducible refine (code_Decode.calls k2 t140 t142 t143 _ A16.out).mono ?_); rintro e w19 ⟨v144, rfl, ho0, hb⟩; refine ⟨_, rfl, ?_⟩; have n0_ := Aside0.mk (Kd.R_lower ho0 (below_size (by repeat (first | (with_reducible first | exact HB.out | apply below_alloc | apply pw_below_drewN | apply below_drew1) | exact HB.out)))); have n1_ := Aside0.mk (below_step (by repeat (first | (with_reducible first | exact HB.out | apply below_alloc | apply pw_below_drewN | apply below_drew1) | exact HB.out)) hb); clear HB; have HO145 := n0_; have HB := n1_; clear n0_ n1_; (try clear hb); (try clear hb2); (try clear hk); (try clear hi); (try clear ho0)))
              (try simp only [Act.put, List.setIfInBounds_toArray, List.set_cons_zero, List.set_cons_succ])
              go_cut [78] (fun v78 wc => ∃ (kq : Nat) (x78_16 : Bool), v78 = .bool x78_16 ∧ Aside0 (instarlaw04_CodeBack.j2 kq a1 x78_16 = some r) ∧ Aside0 (kq ≤ k2) ∧ Aside0 (Below w.heap.size w wc))
              case first =>
                have H := HC17.out
                clear HC17
                by_cases c20 : x6_2 = true
                · subst c20
                  have H1 : (if t141 = 0 then (if t143 = 0 then ((instarref04_Same.f k2 l0 t142).bind fun t146 => (if t146 = true then (instarlaw04_CodeBack.j2 k2 a1 false) else (instarlaw04_CodeBack.j2 k2 a1 true))) else (instarlaw04_CodeBack.j2 k2 a1 true)) else (instarlaw04_CodeBack.j2 k2 a1 true)) = some r := by rw [if_pos rfl] at H; exact H
                  clear H
                  have H := H1
                  clear H1
                  by_cases c21 : t141 = 0
                  · rw [if_pos c21] at H
                    have c21b0 : (t141 == 0) = true := beq_iff_eq.mpr c21
                    have c21b1 : (t141 != 0) = false := bne_eq_false_iff_eq.mpr c21
                    clear c21
                    (first | rw [c21b0] | (simp only [i64_w, i32_w]; rw [c21b0]) | skip)
                    by_cases c22 : t143 = 0
                    · rw [if_pos c22] at H
                      have c22b0 : (t143 == 0) = true := beq_iff_eq.mpr c22
                      have c22b1 : (t143 != 0) = false := bne_eq_false_iff_eq.mpr c22
                      clear c22
                      replace H := Option.bind_eq_some_iff.mp H
                      obtain ⟨t146, A230, H⟩ := H
                      replace H : (if t146 = true then (instarlaw04_CodeBack.j2 k2 a1 false) else (instarlaw04_CodeBack.j2 k2 a1 true)) = some r := H
                      have A23 := Aside0.mk A230
                      clear A230
                      by_cases c24 : t146 = true
                      · subst c24
                        have H1 : (instarlaw04_CodeBack.j2 k2 a1 false) = some r := by rw [if_pos rfl] at H; exact H
                        clear H
                        have H := H1
                        clear H1
                        have H' := Aside0.mk H
                        clear H
                        obtain ⟨Ao25, co25, eo25⟩ := Kd.R_slice HO145.out
                        subst eo25
                        go_wp2_with (first | (go_at_call 13; (with_reducible refine (instarref04_Same.calls k2 _ _ l0 _ _ t142 true _ ?side1 ?side2 ?side3 ?side4 A23.out).mono ?_); (case side1 => repeat (first | exact (Kd.C_below HR0.out HB.out) | (with_reducible refine Kd.C_alloc ?_ _) | (with_reducible refine Kd.C_drewN ?_ _) | (with_reducible refine Kd.C_drew ?_))); (case side2 => exact HC0.out); (case side3 => repeat (first | exact (Kd.R_reads' HO145.out).2.2 | (with_reducible refine Kd.C_alloc ?_ _) | (with_reducible refine Kd.C_drewN ?_ _) | (with_reducible refine Kd.C_drew ?_))); (case side4 => exact (Kd.R_reads' HO145.out).2.1); rintro e w' ⟨rfl, ⟨nd, rfl⟩⟩))
                        go_meet
                        case rel => exact ⟨_, (false), (by first | rfl | (simp; done) | (simp [*]; done)), H', ⟨by have := HJ3.out; have := HK2.out; first | omega | exact Nat.le_refl _⟩, ⟨by repeat (first | (with_reducible first | exact HB.out | apply below_alloc | apply pw_below_drewN | apply below_drew1) | exact HB.out)⟩⟩
                      · replace c24 := Bool.eq_false_iff.mpr c24
                        subst c24
                        have H1 : (instarlaw04_CodeBack.j2 k2 a1 true) = some r := by rw [if_neg (show ¬ (false = true) by decide)] at H; exact H
                        clear H
                        have H := H1
                        clear H1
                        have H' := Aside0.mk H
                        clear H
                        obtain ⟨Ao26, co26, eo26⟩ := Kd.R_slice HO145.out
                        subst eo26
                        go_wp2_with (first | (go_at_call 13; (with_reducible refine (instarref04_Same.calls k2 _ _ l0 _ _ t142 false _ ?side1 ?side2 ?side3 ?side4 A23.out).mono ?_); (case side1 => repeat (first | exact (Kd.C_below HR0.out HB.out) | (with_reducible refine Kd.C_alloc ?_ _) | (with_reducible refine Kd.C_drewN ?_ _) | (with_reducible refine Kd.C_drew ?_))); (case side2 => exact HC0.out); (case side3 => repeat (first | exact (Kd.R_reads' HO145.out).2.2 | (with_reducible refine Kd.C_alloc ?_ _) | (with_reducible refine Kd.C_drewN ?_ _) | (with_reducible refine Kd.C_drew ?_))); (case side4 => exact (Kd.R_reads' HO145.out).2.1); rintro e w' ⟨rfl, ⟨nd, rfl⟩⟩))
                        go_meet
                        case rel => exact ⟨_, (true), (by first | rfl | (simp; done) | (simp [*]; done)), H', ⟨by have := HJ3.out; have := HK2.out; first | omega | exact Nat.le_refl _⟩, ⟨by repeat (first | (with_reducible first | exact HB.out | apply below_alloc | apply pw_below_drewN | apply below_drew1) | exact HB.out)⟩⟩
                    · rw [if_neg c22] at H
                      have c22b0 : (t143 == 0) = false := beq_eq_false_iff_ne.mpr c22
                      have c22b1 : (t143 != 0) = true := bne_iff_ne.mpr c22
                      have H' := Aside0.mk H
                      clear H
                      go_wp2
                      go_meet
                      case rel => exact ⟨_, (true), (by first | rfl | (simp; done) | (simp [*]; done)), H', ⟨by have := HJ3.out; have := HK2.out; first | omega | exact Nat.le_refl _⟩, ⟨by repeat (first | (with_reducible first | exact HB.out | apply below_alloc | apply pw_below_drewN | apply below_drew1) | exact HB.out)⟩⟩
                  · rw [if_neg c21] at H
                    have c21b0 : (t141 == 0) = false := beq_eq_false_iff_ne.mpr c21
                    have c21b1 : (t141 != 0) = true := bne_iff_ne.mpr c21
                    (first | rw [c21b0] | (simp only [i64_w, i32_w]; rw [c21b0]) | skip)
                    have H' := Aside0.mk H
                    clear H
                    go_wp2
                    go_meet
                    case rel => exact ⟨_, (true), (by first | rfl | (simp; done) | (simp [*]; done)), H', ⟨by have := HJ3.out; have := HK2.out; first | omega | exact Nat.le_refl _⟩, ⟨by repeat (first | (with_reducible first | exact HB.out | apply below_alloc | apply pw_below_drewN | apply below_drew1) | exact HB.out)⟩⟩
                · replace c20 := Bool.eq_false_iff.mpr c20
                  subst c20
                  have H1 : (if t141 = 1 then (instarlaw04_CodeBack.j2 k2 a1 (t140.toList != ([] : List UInt8))) else (instarlaw04_CodeBack.j2 k2 a1 true)) = some r := by rw [if_neg (show ¬ (false = true) by decide)] at H; exact H
                  clear H
                  have H := H1
                  clear H1
                  by_cases c27 : t141 = 1
                  · rw [if_pos c27] at H
                    have c27b0 : (t141 == 1) = true := beq_iff_eq.mpr c27
                    have c27b1 : (t141 != 1) = false := bne_eq_false_iff_eq.mpr c27
                    clear c27
                    have H' := Aside0.mk H
                    clear H
                    go_wp2
                    go_meet
                    case rel => exact ⟨_, ((t140.toList != ([] : List UInt8))), (by first | rfl | (simp; done) | (simp [*]; done) | (simp; cases t140.toList <;> rfl)), H', ⟨by have := HJ3.out; have := HK2.out; first | omega | exact Nat.le_refl _⟩, ⟨by repeat (first | (with_reducible first | exact HB.out | apply below_alloc | apply pw_below_drewN | apply below_drew1) | exact HB.out)⟩⟩
                  · rw [if_neg c27] at H
                    have c27b0 : (t141 == 1) = false := beq_eq_false_iff_ne.mpr c27
                    have c27b1 : (t141 != 1) = true := bne_iff_ne.mpr c27
                    have H' := Aside0.mk H
                    clear H
                    go_wp2
                    go_meet
                    case rel => exact ⟨_, (true), (by first | rfl | (simp; done) | (simp [*]; done)), H', ⟨by have := HJ3.out; have := HK2.out; first | omega | exact Nat.le_refl _⟩, ⟨by repeat (first | (with_reducible first | exact HB.out | apply below_alloc | apply pw_below_drewN | apply below_drew1) | exact HB.out)⟩⟩
              case rest =>
                clear HC17
                try clear c1
                try clear p1
                try clear q1
                try clear hx1
                try clear c2
                try clear p2
                try clear c4
                try clear c5
                try clear c6
                try clear p6
                try clear c7
                try clear c8
                try clear c9
                try clear c9b0
                try clear c10
                try clear c10b0
                try clear c11
                try clear c12
                try clear p13
                try clear q13
                try clear hx13
                try clear c20
                try clear c21
                try clear c21b0
                try clear c21b1
                try clear c22
                try clear c22b0
                try clear c22b1
                try clear c24
                try clear c27
                try clear c27b0
                try clear c27b1
                try clear hx138_0
                try clear hx138_1
                try clear hx138_2
                try clear p138
                try clear p2
                try clear q138
                obtain ⟨kq, x78_16, rfl, HA, HJ16, HB⟩ := hcut
                cases kq with
                | zero => exact absurd HA.out (by simp [instarlaw04_CodeBack.j2])
                | succ kj16 =>
                  have H := HA.out
                  clear HA
                  simp only [instarlaw04_CodeBack.j2] at H
                  by_cases c28 : x78_16 = true
                  · subst c28
                    have H1 : (some false) = some r := by rw [if_pos rfl] at H; exact H
                    clear H
                    have H := H1
                    clear H1
                    obtain rfl := Option.some.inj H
                    go_wp2
                    go_ret
                    exact ⟨by first | rfl | (simp [errW_none, errW_some] <;> rfl) | (simp [*, errW_none, errW_some] <;> rfl), by repeat (first | (with_reducible first | exact HB.out | apply below_alloc | apply pw_below_drewN | apply below_drew1) | exact HB.out)⟩
                  · replace c28 := Bool.eq_false_iff.mpr c28
                    subst c28
                    have H1 : ((code_Decode.f kj16 a1).bind fun bt147 => ((code_Encode.f bt147.1).bind fun bt151 => ((instarlaw04_alive.f kj16).bind fun t153 => (if t153 = true then (if bt147.2 = 0 then (if bt151.2 = 0 then (some (bt151.1.toList == a1.toList)) else (some false)) else (some true)) else (some false))))) = some r := by rw [if_neg (show ¬ (false = true) by decide)] at H; exact H
                    clear H
                    have H := H1
                    clear H1
                    replace H := Option.bind_eq_some_iff.mp H
                    obtain ⟨⟨t147, t148⟩, A290, H⟩ := H
                    replace H : ((code_Encode.f t147).bind fun bt151 => ((instarlaw04_alive.f kj16).bind fun t153 => (if t153 = true then (if t148 = 0 then (if bt151.2 = 0 then (some (bt151.1.toList == a1.toList)) else (some false)) else (some true)) else (some false)))) = some r := H
                    have A29 := Aside0.mk A290
                    clear A290
                    replace H := Option.bind_eq_some_iff.mp H
                    obtain ⟨⟨t151, t152⟩, A300, H⟩ := H
                    replace H : ((instarlaw04_alive.f kj16).bind fun t153 => (if t153 = true then (if t148 = 0 then (if t152 = 0 then (some (t151.toList == a1.toList)) else (some false)) else (some true)) else (some false))) = some r := H
                    have A30 := Aside0.mk A300
                    clear A300
                    replace H := Option.bind_eq_some_iff.mp H
                    obtain ⟨t153, A310, H⟩ := H
                    replace H : (if t153 = true then (if t148 = 0 then (if t152 = 0 then (some (t151.toList == a1.toList)) else (some false)) else (some true)) else (some false)) = some r := H
                    have A31 := Aside0.mk A310
                    clear A310
                    by_cases c32 : t153 = true
                    · subst c32
                      have H1 : (if t148 = 0 then (if t152 = 0 then (some (t151.toList == a1.toList)) else (some false)) else (some true)) = some r := by rw [if_pos rfl] at H; exact H
                      clear H
                      have H := H1
                      clear H1
                      by_cases c33 : t148 = 0
                      · rw [if_pos c33] at H
                        have c33b0 : (t148 == 0) = true := beq_iff_eq.mpr c33
                        have c33b1 : (t148 != 0) = false := bne_eq_false_iff_eq.mpr c33
                        clear c33
                        by_cases c34 : t152 = 0
                        · rw [if_pos c34] at H
                          have c34b0 : (t152 == 0) = true := beq_iff_eq.mpr c34
                          have c34b1 : (t152 != 0) = false := bne_eq_false_iff_eq.mpr c34
                          clear c34
                          obtain rfl := Option.some.inj H
                          go_wp2_with (first | ((with_reducible refine gate_callee (f := 12) rfl ?_); refine goesL_ (some 81) rfl rfl Tryd.func12 (by kernel_rfl) rfl #[.string a1] rfl (by (try simp only [List.map_toArray, List.map_cons, List.map_nil]); first | done | rfl | (simp only [List.length_drop, List.length_take]; rfl)) ?_; (with_reducible refine (code_Decode.calls kj16 a1 t147 t148 _ A29.out).mono ?_); rintro e w35 ⟨v149, rfl, ho0, hb⟩; refine ⟨_, rfl, ?_⟩; have n0_ := Aside0.mk (Kd.R_lower ho0 (below_size (by repeat (first | (with_reducible first | exact HB.out | apply below_alloc | apply pw_below_drewN | apply below_drew1) | exact HB.out)))); have n1_ := Aside0.mk (below_step (by repeat (first | (with_reducible first | exact HB.out | apply below_alloc | apply pw_below_drewN | apply below_drew1) | exact HB.out)) hb); clear HB; have HO150 := n0_; have HB := n1_; clear n0_ n1_; (try clear hb); (try clear hb2); (try clear hk); (try clear hi); (try clear ho0); obtain ⟨Ao36, co36, eo36⟩ := Kd.R_slice HO150.out; subst eo36) | ((with_reducible refine gate_callee (f := 9) rfl ?_); refine goesL_ (some 86) rfl rfl Tryd.func9 (by kernel_rfl) rfl #[.slice Ao36 t147.length co36] rfl (by (try simp only [List.map_toArray, List.map_cons, List.map_nil]); first | done | rfl | (simp only [List.length_drop, List.length_take]; rfl)) ?_; (with_reducible refine (code_Encode.calls _ _ t147 t151 t152 _ ?side1 ?side2 A30.out).mono ?_); (case side1 => repeat (first | exact (Kd.R_reads' HO150.out).2.2 | (with_reducible refine Kd.C_alloc ?_ _) | (with_reducible refine Kd.C_drewN ?_ _) | (with_reducible refine Kd.C_drew ?_))); (case side2 => exact (Kd.R_reads' HO150.out).2.1); rintro e w37 ⟨rfl, hb⟩; refine ⟨_, rfl, ?_⟩; have n0_ := Aside0.mk (Kd.R_below (by (with_reducible repeat (first | apply Kd.R_alloc | apply Kd.R_drewN | apply Kd.R_drew)); exact HO150.out) hb); have n1_ := Aside0.mk (below_step (by repeat (first | (with_reducible first | exact HB.out | apply below_alloc | apply pw_below_drewN | apply below_drew1) | exact HB.out)) hb); clear HO150; clear HB; have HO150 := n0_; have HB := n1_; clear n0_ n1_; (try clear hb); (try clear hb2); (try clear hk); (try clear hi)) | ((with_reducible refine gate_callee (f := 8) rfl ?_); refine goesL_ (some 89) rfl rfl Tryd.func8 (by kernel_rfl) rfl #[] rfl (by (try simp only [List.map_toArray, List.map_cons, List.map_nil]); first | done | rfl | (simp only [List.length_drop, List.length_take]; rfl)) ?_; (with_reducible refine (instarlaw04_alive.calls kj16  true _ A31.out).mono ?_); rintro e w38 ⟨rfl, hb⟩; refine ⟨_, rfl, ?_⟩; have n0_ := Aside0.mk (Kd.R_below (by (with_reducible repeat (first | apply Kd.R_alloc | apply Kd.R_drewN | apply Kd.R_drew)); exact HO150.out) hb); have n1_ := Aside0.mk (below_step (by repeat (first | (with_reducible first | exact HB.out | apply below_alloc | apply pw_below_drewN | apply below_drew1) | exact HB.out)) hb); clear HO150; clear HB; have HO150 := n0_; have HB := n1_; clear n0_ n1_; (try clear hb); (try clear hb2); (try clear hk); (try clear hi)))
                          go_ret
                          exact ⟨by first | rfl | (simp [errW_none, errW_some] <;> rfl) | (simp [*, errW_none, errW_some] <;> rfl), by repeat (first | (with_reducible first | exact HB.out | apply below_alloc | apply pw_below_drewN | apply below_drew1) | exact HB.out)⟩
                        · rw [if_neg c34] at H
                          have c34b0 : (t152 == 0) = false := beq_eq_false_iff_ne.mpr c34
                          have c34b1 : (t152 != 0) = true := bne_iff_ne.mpr c34
                          obtain rfl := Option.some.inj H
                          go_wp2_with (first | ((with_reducible refine gate_callee (f := 12) rfl ?_); refine goesL_ (some 81) rfl rfl Tryd.func12 (by kernel_rfl) rfl #[.string a1] rfl (by (try simp only [List.map_toArray, List.map_cons, List.map_nil]); first | done | rfl | (simp only [List.length_drop, List.length_take]; rfl)) ?_; (with_reducible refine (code_Decode.calls kj16 a1 t147 t148 _ A29.out).mono ?_); rintro e w39 ⟨v149, rfl, ho0, hb⟩; refine ⟨_, rfl, ?_⟩; have n0_ := Aside0.mk (Kd.R_lower ho0 (below_size (by repeat (first | (with_reducible first | exact HB.out | apply below_alloc | apply pw_below_drewN | apply below_drew1) | exact HB.out)))); have n1_ := Aside0.mk (below_step (by repeat (first | (with_reducible first | exact HB.out | apply below_alloc | apply pw_below_drewN | apply below_drew1) | exact HB.out)) hb); clear HB; have HO150 := n0_; have HB := n1_; clear n0_ n1_; (try clear hb); (try clear hb2); (try clear hk); (try clear hi); (try clear ho0); obtain ⟨Ao40, co40, eo40⟩ := Kd.R_slice HO150.out; subst eo40) | ((with_reducible refine gate_callee (f := 9) rfl ?_); refine goesL_ (some 86) rfl rfl Tryd.func9 (by kernel_rfl) rfl #[.slice Ao40 t147.length co40] rfl (by (try simp only [List.map_toArray, List.map_cons, List.map_nil]); first | done | rfl | (simp only [List.length_drop, List.length_take]; rfl)) ?_; (with_reducible refine (code_Encode.calls _ _ t147 t151 t152 _ ?side1 ?side2 A30.out).mono ?_); (case side1 => repeat (first | exact (Kd.R_reads' HO150.out).2.2 | (with_reducible refine Kd.C_alloc ?_ _) | (with_reducible refine Kd.C_drewN ?_ _) | (with_reducible refine Kd.C_drew ?_))); (case side2 => exact (Kd.R_reads' HO150.out).2.1); rintro e w41 ⟨rfl, hb⟩; refine ⟨_, rfl, ?_⟩; have n0_ := Aside0.mk (Kd.R_below (by (with_reducible repeat (first | apply Kd.R_alloc | apply Kd.R_drewN | apply Kd.R_drew)); exact HO150.out) hb); have n1_ := Aside0.mk (below_step (by repeat (first | (with_reducible first | exact HB.out | apply below_alloc | apply pw_below_drewN | apply below_drew1) | exact HB.out)) hb); clear HO150; clear HB; have HO150 := n0_; have HB := n1_; clear n0_ n1_; (try clear hb); (try clear hb2); (try clear hk); (try clear hi)) | ((with_reducible refine gate_callee (f := 8) rfl ?_); refine goesL_ (some 89) rfl rfl Tryd.func8 (by kernel_rfl) rfl #[] rfl (by (try simp only [List.map_toArray, List.map_cons, List.map_nil]); first | done | rfl | (simp only [List.length_drop, List.length_take]; rfl)) ?_; (with_reducible refine (instarlaw04_alive.calls kj16  true _ A31.out).mono ?_); rintro e w42 ⟨rfl, hb⟩; refine ⟨_, rfl, ?_⟩; have n0_ := Aside0.mk (Kd.R_below (by (with_reducible repeat (first | apply Kd.R_alloc | apply Kd.R_drewN | apply Kd.R_drew)); exact HO150.out) hb); have n1_ := Aside0.mk (below_step (by repeat (first | (with_reducible first | exact HB.out | apply below_alloc | apply pw_below_drewN | apply below_drew1) | exact HB.out)) hb); clear HO150; clear HB; have HO150 := n0_; have HB := n1_; clear n0_ n1_; (try clear hb); (try clear hb2); (try clear hk); (try clear hi)))
                          go_ret
                          exact ⟨by first | rfl | (simp [errW_none, errW_some] <;> rfl) | (simp [*, errW_none, errW_some] <;> rfl), by repeat (first | (with_reducible first | exact HB.out | apply below_alloc | apply pw_below_drewN | apply below_drew1) | exact HB.out)⟩
                      · rw [if_neg c33] at H
                        have c33b0 : (t148 == 0) = false := beq_eq_false_iff_ne.mpr c33
                        have c33b1 : (t148 != 0) = true := bne_iff_ne.mpr c33
                        obtain rfl := Option.some.inj H
                        go_wp2_with (first | ((with_reducible refine gate_callee (f := 12) rfl ?_); refine goesL_ (some 81) rfl rfl Tryd.func12 (by kernel_rfl) rfl #[.string a1] rfl (by (try simp only [List.map_toArray, List.map_cons, List.map_nil]); first | done | rfl | (simp only [List.length_drop, List.length_take]; rfl)) ?_; (with_reducible refine (code_Decode.calls kj16 a1 t147 t148 _ A29.out).mono ?_); rintro e w43 ⟨v149, rfl, ho0, hb⟩; refine ⟨_, rfl, ?_⟩; have n0_ := Aside0.mk (Kd.R_lower ho0 (below_size (by repeat (first | (with_reducible first | exact HB.out | apply below_alloc | apply pw_below_drewN | apply below_drew1) | exact HB.out)))); have n1_ := Aside0.mk (below_step (by repeat (first | (with_reducible first | exact HB.out | apply below_alloc | apply pw_below_drewN | apply below_drew1) | exact HB.out)) hb); clear HB; have HO150 := n0_; have HB := n1_; clear n0_ n1_; (try clear hb); (try clear hb2); (try clear hk); (try clear hi); (try clear ho0); obtain ⟨Ao44, co44, eo44⟩ := Kd.R_slice HO150.out; subst eo44) | ((with_reducible refine gate_callee (f := 9) rfl ?_); refine goesL_ (some 86) rfl rfl Tryd.func9 (by kernel_rfl) rfl #[.slice Ao44 t147.length co44] rfl (by (try simp only [List.map_toArray, List.map_cons, List.map_nil]); first | done | rfl | (simp only [List.length_drop, List.length_take]; rfl)) ?_; (with_reducible refine (code_Encode.calls _ _ t147 t151 t152 _ ?side1 ?side2 A30.out).mono ?_); (case side1 => repeat (first | exact (Kd.R_reads' HO150.out).2.2 | (with_reducible refine Kd.C_alloc ?_ _) | (with_reducible refine Kd.C_drewN ?_ _) | (with_reducible refine Kd.C_drew ?_))); (case side2 => exact (Kd.R_reads' HO150.out).2.1); rintro e w45 ⟨rfl, hb⟩; refine ⟨_, rfl, ?_⟩; have n0_ := Aside0.mk (Kd.R_below (by (with_reducible repeat (first | apply Kd.R_alloc | apply Kd.R_drewN | apply Kd.R_drew)); exact HO150.out) hb); have n1_ := Aside0.mk (below_step (by repeat (first | (with_reducible first | exact HB.out | apply below_alloc | apply pw_below_drewN | apply below_drew1) | exact HB.out)) hb); clear HO150; clear HB; have HO150 := n0_; have HB := n1_; clear n0_ n1_; (try clear hb); (try clear hb2); (try clear hk); (try clear hi)) | ((with_reducible refine gate_callee (f := 8) rfl ?_); refine goesL_ (some 89) rfl rfl Tryd.func8 (by kernel_rfl) rfl #[] rfl (by (try simp only [List.map_toArray, List.map_cons, List.map_nil]); first | done | rfl | (simp only [List.length_drop, List.length_take]; rfl)) ?_; (with_reducible refine (instarlaw04_alive.calls kj16  true _ A31.out).mono ?_); rintro e w46 ⟨rfl, hb⟩; refine ⟨_, rfl, ?_⟩; have n0_ := Aside0.mk (Kd.R_below (by (with_reducible repeat (first | apply Kd.R_alloc | apply Kd.R_drewN | apply Kd.R_drew)); exact HO150.out) hb); have n1_ := Aside0.mk (below_step (by repeat (first | (with_reducible first | exact HB.out | apply below_alloc | apply pw_below_drewN | apply below_drew1) | exact HB.out)) hb); clear HO150; clear HB; have HO150 := n0_; have HB := n1_; clear n0_ n1_; (try clear hb); (try clear hb2); (try clear hk); (try clear hi)))
                        go_ret
                        exact ⟨by first | rfl | (simp [errW_none, errW_some] <;> rfl) | (simp [*, errW_none, errW_some] <;> rfl), by repeat (first | (with_reducible first | exact HB.out | apply below_alloc | apply pw_below_drewN | apply below_drew1) | exact HB.out)⟩
                    · replace c32 := Bool.eq_false_iff.mpr c32
                      subst c32
                      have H1 : (some false) = some r := by rw [if_neg (show ¬ (false = true) by decide)] at H; exact H
                      clear H
                      have H := H1
                      clear H1
                      obtain rfl := Option.some.inj H
                      go_wp2_with (first | ((with_reducible refine gate_callee (f := 12) rfl ?_); refine goesL_ (some 81) rfl rfl Tryd.func12 (by kernel_rfl) rfl #[.string a1] rfl (by (try simp only [List.map_toArray, List.map_cons, List.map_nil]); first | done | rfl | (simp only [List.length_drop, List.length_take]; rfl)) ?_; (with_reducible refine (code_Decode.calls kj16 a1 t147 t148 _ A29.out).mono ?_); rintro e w47 ⟨v149, rfl, ho0, hb⟩; refine ⟨_, rfl, ?_⟩; have n0_ := Aside0.mk (Kd.R_lower ho0 (below_size (by repeat (first | (with_reducible first | exact HB.out | apply below_alloc | apply pw_below_drewN | apply below_drew1) | exact HB.out)))); have n1_ := Aside0.mk (below_step (by repeat (first | (with_reducible first | exact HB.out | apply below_alloc | apply pw_below_drewN | apply below_drew1) | exact HB.out)) hb); clear HB; have HO150 := n0_; have HB := n1_; clear n0_ n1_; (try clear hb); (try clear hb2); (try clear hk); (try clear hi); (try clear ho0); obtain ⟨Ao48, co48, eo48⟩ := Kd.R_slice HO150.out; subst eo48) | ((with_reducible refine gate_callee (f := 9) rfl ?_); refine goesL_ (some 86) rfl rfl Tryd.func9 (by kernel_rfl) rfl #[.slice Ao48 t147.length co48] rfl (by (try simp only [List.map_toArray, List.map_cons, List.map_nil]); first | done | rfl | (simp only [List.length_drop, List.length_take]; rfl)) ?_; (with_reducible refine (code_Encode.calls _ _ t147 t151 t152 _ ?side1 ?side2 A30.out).mono ?_); (case side1 => repeat (first | exact (Kd.R_reads' HO150.out).2.2 | (with_reducible refine Kd.C_alloc ?_ _) | (with_reducible refine Kd.C_drewN ?_ _) | (with_reducible refine Kd.C_drew ?_))); (case side2 => exact (Kd.R_reads' HO150.out).2.1); rintro e w49 ⟨rfl, hb⟩; refine ⟨_, rfl, ?_⟩; have n0_ := Aside0.mk (Kd.R_below (by (with_reducible repeat (first | apply Kd.R_alloc | apply Kd.R_drewN | apply Kd.R_drew)); exact HO150.out) hb); have n1_ := Aside0.mk (below_step (by repeat (first | (with_reducible first | exact HB.out | apply below_alloc | apply pw_below_drewN | apply below_drew1) | exact HB.out)) hb); clear HO150; clear HB; have HO150 := n0_; have HB := n1_; clear n0_ n1_; (try clear hb); (try clear hb2); (try clear hk); (try clear hi)) | ((with_reducible refine gate_callee (f := 8) rfl ?_); refine goesL_ (some 89) rfl rfl Tryd.func8 (by kernel_rfl) rfl #[] rfl (by (try simp only [List.map_toArray, List.map_cons, List.map_nil]); first | done | rfl | (simp only [List.length_drop, List.length_take]; rfl)) ?_; (with_reducible refine (instarlaw04_alive.calls kj16  false _ A31.out).mono ?_); rintro e w50 ⟨rfl, hb⟩; refine ⟨_, rfl, ?_⟩; have n0_ := Aside0.mk (Kd.R_below (by (with_reducible repeat (first | apply Kd.R_alloc | apply Kd.R_drewN | apply Kd.R_drew)); exact HO150.out) hb); have n1_ := Aside0.mk (below_step (by repeat (first | (with_reducible first | exact HB.out | apply below_alloc | apply pw_below_drewN | apply below_drew1) | exact HB.out)) hb); clear HO150; clear HB; have HO150 := n0_; have HB := n1_; clear n0_ n1_; (try clear hb); (try clear hb2); (try clear hk); (try clear hi)))
                      go_ret
                      exact ⟨by first | rfl | (simp [errW_none, errW_some] <;> rfl) | (simp [*, errW_none, errW_some] <;> rfl), by repeat (first | (with_reducible first | exact HB.out | apply below_alloc | apply pw_below_drewN | apply below_drew1) | exact HB.out)⟩

/-! ### instarlaw04_CodeOrder: function 5 -/
def instarlaw04_CodeOrder.j0 : Nat → List (S32) → List (S32) → ByteArray → ByteArray → Bool → Option (Bool)
  | 0, _, _, _, _, _ => none
  | k + 1, x0, x1, x7, x9, x39 => if x39 = true then ((instarlaw04_alive.f k).bind fun t160 => (some t160)) else ((instarref04_Compare.f k x0 x1).bind fun t161 => ((instarlaw04_alive.f k).bind fun t162 => (if t162 = true then (if ((Op.bytesLess x7.toList x9.toList) == (decide (t161 < 0))) = true then (some ((x7.toList == x9.toList) == (t161 == 0))) else (some false)) else (some false))))
def instarlaw04_CodeOrder.f (k : Nat) (l0 : List (S32)) (l1 : List (S32)) : Option (Bool) := (instarlaw04_fits.f k l0).bind fun t154 => ((instarlaw04_fits.f k l1).bind fun t155 => ((code_Encode.f l0).bind fun bt156 => ((code_Encode.f l1).bind fun bt158 => (if t154 = true then (if t155 = true then (if bt156.2 = 0 then (instarlaw04_CodeOrder.j0 k l0 l1 bt156.1 bt158.1 (bt158.2 != 0)) else (instarlaw04_CodeOrder.j0 k l0 l1 bt156.1 bt158.1 true)) else (instarlaw04_CodeOrder.j0 k l0 l1 bt156.1 bt158.1 true)) else (instarlaw04_CodeOrder.j0 k l0 l1 bt156.1 bt158.1 true)))))
theorem instarlaw04_CodeOrder.mono_l : ∀ k, (∀ y0 y1 y2 y3 y4, LeO (instarlaw04_CodeOrder.j0 k y0 y1 y2 y3 y4) (instarlaw04_CodeOrder.j0 (k + 1) y0 y1 y2 y3 y4))
  | 0 => fun _ _ _ _ _ r h => by simp [instarlaw04_CodeOrder.j0] at h
  | k + 1 => by
    have ih0 := instarlaw04_CodeOrder.mono_l k
    · intro y0 y1 y2 y3 y4
      unfold instarlaw04_CodeOrder.j0
      repeat' first
      | (with_reducible exact ih0 _ _ _ _ _)
      | (with_reducible exact instarlaw04_alive.mono _)
      | (with_reducible exact instarlaw04_fits.mono _ _)
      | (with_reducible exact instarref04_Compare.mono _ _ _)
      | (with_reducible exact LeO.refl _)
      | (with_reducible exact LeO.none _)
      | (with_reducible refine LeO.ite ?_ ?_)
      | (with_reducible refine LeO.bind ?_ (fun _ => ?_))
      | exact ih0 _ _ _ _ _
      | exact instarlaw04_alive.mono _
      | exact instarlaw04_fits.mono _ _
      | exact instarref04_Compare.mono _ _ _
      | exact LeO.none _
      | refine LeO.ite ?_ ?_
      | refine LeO.bind ?_ (fun _ => ?_)
theorem instarlaw04_CodeOrder.mono : ∀ a0 a1 k, LeO (instarlaw04_CodeOrder.f k a0 a1) (instarlaw04_CodeOrder.f (k + 1) a0 a1) := by
  intro a0 a1 k
  have ih0 := instarlaw04_CodeOrder.mono_l k
  unfold instarlaw04_CodeOrder.f
  repeat' first
      | (with_reducible exact ih0 _ _ _ _ _)
      | (with_reducible exact instarlaw04_alive.mono _)
      | (with_reducible exact instarlaw04_fits.mono _ _)
      | (with_reducible exact instarref04_Compare.mono _ _ _)
      | (with_reducible exact LeO.refl _)
      | (with_reducible exact LeO.none _)
      | (with_reducible refine LeO.ite ?_ ?_)
      | (with_reducible refine LeO.bind ?_ (fun _ => ?_))
      | exact ih0 _ _ _ _ _
      | exact instarlaw04_alive.mono _
      | exact instarlaw04_fits.mono _ _
      | exact instarref04_Compare.mono _ _ _
      | exact LeO.none _
      | refine LeO.ite ?_ ?_
      | refine LeO.bind ?_ (fun _ => ?_)
set_option maxHeartbeats 8000000 in
set_option maxRecDepth 100000 in
theorem instarlaw04_CodeOrder.calls (k : Nat) (A0 : Option Addr) (c0 : Nat) (l0 : List (S32)) (A1 : Option Addr) (c1 : Nat) (l1 : List (S32)) (r : Bool) (w : World) (hr0 : Kd.C k32 w A0 l0.length l0) (hc0 : l0.length ≤ c0) (hr1 : Kd.C k32 w A1 l1.length l1) (hc1 : l1.length ≤ c1) (h : instarlaw04_CodeOrder.f k l0 l1 = some r) :
    Calls Tryd.prog 5 #[.slice A0 l0.length c0, .slice A1 l1.length c1] w fun e w' => e = .returned (.bool r) ∧ Below w.heap.size w w' := by
  have HR0 := Aside0.mk hr0
  have HC0 := Aside0.mk hc0
  clear hr0 hc0
  have HR1 := Aside0.mk hr1
  have HC1 := Aside0.mk hc1
  clear hr1 hc1
  have HB := Aside0.mk (Below.refl w.heap.size w)
  have H : ((instarlaw04_fits.f k l0).bind fun t154 => ((instarlaw04_fits.f k l1).bind fun t155 => ((code_Encode.f l0).bind fun bt156 => ((code_Encode.f l1).bind fun bt158 => (if t154 = true then (if t155 = true then (if bt156.2 = 0 then (instarlaw04_CodeOrder.j0 k l0 l1 bt156.1 bt158.1 (bt158.2 != 0)) else (instarlaw04_CodeOrder.j0 k l0 l1 bt156.1 bt158.1 true)) else (instarlaw04_CodeOrder.j0 k l0 l1 bt156.1 bt158.1 true)) else (instarlaw04_CodeOrder.j0 k l0 l1 bt156.1 bt158.1 true)))))) = some r := h
  clear h
  replace H := Option.bind_eq_some_iff.mp H
  obtain ⟨t154, A30, H⟩ := H
  replace H : ((instarlaw04_fits.f k l1).bind fun t155 => ((code_Encode.f l0).bind fun bt156 => ((code_Encode.f l1).bind fun bt158 => (if t154 = true then (if t155 = true then (if bt156.2 = 0 then (instarlaw04_CodeOrder.j0 k l0 l1 bt156.1 bt158.1 (bt158.2 != 0)) else (instarlaw04_CodeOrder.j0 k l0 l1 bt156.1 bt158.1 true)) else (instarlaw04_CodeOrder.j0 k l0 l1 bt156.1 bt158.1 true)) else (instarlaw04_CodeOrder.j0 k l0 l1 bt156.1 bt158.1 true))))) = some r := H
  have A3 := Aside0.mk A30
  clear A30
  replace H := Option.bind_eq_some_iff.mp H
  obtain ⟨t155, A40, H⟩ := H
  replace H : ((code_Encode.f l0).bind fun bt156 => ((code_Encode.f l1).bind fun bt158 => (if t154 = true then (if t155 = true then (if bt156.2 = 0 then (instarlaw04_CodeOrder.j0 k l0 l1 bt156.1 bt158.1 (bt158.2 != 0)) else (instarlaw04_CodeOrder.j0 k l0 l1 bt156.1 bt158.1 true)) else (instarlaw04_CodeOrder.j0 k l0 l1 bt156.1 bt158.1 true)) else (instarlaw04_CodeOrder.j0 k l0 l1 bt156.1 bt158.1 true)))) = some r := H
  have A4 := Aside0.mk A40
  clear A40
  replace H := Option.bind_eq_some_iff.mp H
  obtain ⟨⟨t156, t157⟩, A50, H⟩ := H
  replace H : ((code_Encode.f l1).bind fun bt158 => (if t154 = true then (if t155 = true then (if t157 = 0 then (instarlaw04_CodeOrder.j0 k l0 l1 t156 bt158.1 (bt158.2 != 0)) else (instarlaw04_CodeOrder.j0 k l0 l1 t156 bt158.1 true)) else (instarlaw04_CodeOrder.j0 k l0 l1 t156 bt158.1 true)) else (instarlaw04_CodeOrder.j0 k l0 l1 t156 bt158.1 true))) = some r := H
  have A5 := Aside0.mk A50
  clear A50
  replace H := Option.bind_eq_some_iff.mp H
  obtain ⟨⟨t158, t159⟩, A60, H⟩ := H
  replace H : (if t154 = true then (if t155 = true then (if t157 = 0 then (instarlaw04_CodeOrder.j0 k l0 l1 t156 t158 (t159 != 0)) else (instarlaw04_CodeOrder.j0 k l0 l1 t156 t158 true)) else (instarlaw04_CodeOrder.j0 k l0 l1 t156 t158 true)) else (instarlaw04_CodeOrder.j0 k l0 l1 t156 t158 true)) = some r := H
  have A6 := Aside0.mk A60
  clear A60
  have HC7 := Aside0.mk H
  clear H
  go_enter Tryd.func5, Tryd.ntmps5
  go_upto_region 5 with (first | ((with_reducible refine gate_callee (f := 7) rfl ?_); refine goesL_ (some 13) rfl rfl Tryd.func7 (by kernel_rfl) rfl #[.slice A0 l0.length c0] rfl (by (try simp only [List.map_toArray, List.map_cons, List.map_nil]); first | done | rfl | (simp only [List.length_drop, List.length_take]; rfl)) ?_; (with_reducible refine (instarlaw04_fits.calls k _ _ l0 t154 _ ?side1 ?side2 A3.out).mono ?_); (case side1 => repeat (first | exact HR0.out | (with_reducible refine Kd.C_alloc ?_ _) | (with_reducible refine Kd.C_drewN ?_ _) | (with_reducible refine Kd.C_drew ?_))); (case side2 => exact HC0.out); rintro e w' ⟨rfl, ⟨nd, rfl⟩⟩; refine ⟨_, rfl, ?_⟩) | ((with_reducible refine gate_callee (f := 7) rfl ?_); refine goesL_ (some 15) rfl rfl Tryd.func7 (by kernel_rfl) rfl #[.slice A1 l1.length c1] rfl (by (try simp only [List.map_toArray, List.map_cons, List.map_nil]); first | done | rfl | (simp only [List.length_drop, List.length_take]; rfl)) ?_; (with_reducible refine (instarlaw04_fits.calls k _ _ l1 t155 _ ?side1 ?side2 A4.out).mono ?_); (case side1 => repeat (first | exact HR1.out | (with_reducible refine Kd.C_alloc ?_ _) | (with_reducible refine Kd.C_drewN ?_ _) | (with_reducible refine Kd.C_drew ?_))); (case side2 => exact HC1.out); rintro e w' ⟨rfl, ⟨nd, rfl⟩⟩; refine ⟨_, rfl, ?_⟩) | ((with_reducible refine gate_callee (f := 9) rfl ?_); refine goesL_ (some 18) rfl rfl Tryd.func9 (by kernel_rfl) rfl #[.slice A0 l0.length c0] rfl (by (try simp only [List.map_toArray, List.map_cons, List.map_nil]); first | done | rfl | (simp only [List.length_drop, List.length_take]; rfl)) ?_; (with_reducible refine (code_Encode.calls _ _ l0 t156 t157 _ ?side1 ?side2 A5.out).mono ?_); (case side1 => repeat (first | exact HR0.out | (with_reducible refine Kd.C_alloc ?_ _) | (with_reducible refine Kd.C_drewN ?_ _) | (with_reducible refine Kd.C_drew ?_))); (case side2 => exact HC0.out); rintro e w8 ⟨rfl, hb⟩; refine ⟨_, rfl, ?_⟩; have n0_ := Aside0.mk (below_step (by repeat (first | (with_reducible first | exact HB.out | apply below_alloc | apply pw_below_drewN | apply below_drew1) | exact HB.out)) hb); clear HB; have HB := n0_; clear n0_; (try clear hb); (try clear hb2); (try clear hk); (try clear hi)) | ((with_reducible refine gate_callee (f := 9) rfl ?_); refine goesL_ (some 23) rfl rfl Tryd.func9 (by kernel_rfl) rfl #[.slice A1 l1.length c1] rfl (by (try simp only [List.map_toArray, List.map_cons, List.map_nil]); first | done | rfl | (simp only [List.length_drop, List.length_take]; rfl)) ?_; (with_reducible refine (code_Encode.calls _ _ l1 t158 t159 _ ?side1 ?side2 A6.out).mono ?_); (case side1 => repeat (first | exact (Kd.C_below HR1.out HB.out) | (with_reducible refine Kd.C_alloc ?_ _) | (with_reducible refine Kd.C_drewN ?_ _) | (with_reducible refine Kd.C_drew ?_))); (case side2 => exact HC1.out); rintro e w9 ⟨rfl, hb⟩; refine ⟨_, rfl, ?_⟩; have n0_ := Aside0.mk (below_step (by repeat (first | (with_reducible first | exact HB.out | apply below_alloc | apply pw_below_drewN | apply below_drew1) | exact HB.out)) hb); clear HB; have HB := n0_; clear n0_; (try clear hb); (try clear hb2); (try clear hk); (try clear hi)))
  (try simp only [Act.put, List.setIfInBounds_toArray, List.set_cons_zero, List.set_cons_succ])
  go_cut [39] (fun v39 wc => ∃ (kq : Nat) (x39_6 : Bool), v39 = .bool x39_6 ∧ Aside0 (instarlaw04_CodeOrder.j0 kq l0 l1 t156 t158 x39_6 = some r) ∧ Aside0 (kq ≤ k) ∧ Aside0 (Below w.heap.size w wc))
  case first =>
    have H := HC7.out
    clear HC7
    by_cases c10 : t154 = true
    · subst c10
      have H1 : (if t155 = true then (if t157 = 0 then (instarlaw04_CodeOrder.j0 k l0 l1 t156 t158 (t159 != 0)) else (instarlaw04_CodeOrder.j0 k l0 l1 t156 t158 true)) else (instarlaw04_CodeOrder.j0 k l0 l1 t156 t158 true)) = some r := by rw [if_pos rfl] at H; exact H
      clear H
      have H := H1
      clear H1
      by_cases c11 : t155 = true
      · subst c11
        have H1 : (if t157 = 0 then (instarlaw04_CodeOrder.j0 k l0 l1 t156 t158 (t159 != 0)) else (instarlaw04_CodeOrder.j0 k l0 l1 t156 t158 true)) = some r := by rw [if_pos rfl] at H; exact H
        clear H
        have H := H1
        clear H1
        by_cases c12 : t157 = 0
        · rw [if_pos c12] at H
          have c12b0 : (t157 == 0) = true := beq_iff_eq.mpr c12
          have c12b1 : (t157 != 0) = false := bne_eq_false_iff_eq.mpr c12
          clear c12
          (first | rw [c12b0] | (simp only [i64_w, i32_w]; rw [c12b0]) | skip)
          have H' := Aside0.mk H
          clear H
          go_wp2
          go_meet
          case rel => exact ⟨_, ((t159 != 0)), (by first | rfl | (simp; done) | (simp [*]; done)), H', ⟨by first | omega | exact Nat.le_refl _⟩, ⟨by repeat (first | (with_reducible first | exact HB.out | apply below_alloc | apply pw_below_drewN | apply below_drew1) | exact HB.out)⟩⟩
        · rw [if_neg c12] at H
          have c12b0 : (t157 == 0) = false := beq_eq_false_iff_ne.mpr c12
          have c12b1 : (t157 != 0) = true := bne_iff_ne.mpr c12
          (first | rw [c12b0] | (simp only [i64_w, i32_w]; rw [c12b0]) | skip)
          have H' := Aside0.mk H
          clear H
          go_wp2
          go_meet
          case rel => exact ⟨_, (true), (by first | rfl | (simp; done) | (simp [*]; done)), H', ⟨by first | omega | exact Nat.le_refl _⟩, ⟨by repeat (first | (with_reducible first | exact HB.out | apply below_alloc | apply pw_below_drewN | apply below_drew1) | exact HB.out)⟩⟩
      · replace c11 := Bool.eq_false_iff.mpr c11
        subst c11
        have H1 : (instarlaw04_CodeOrder.j0 k l0 l1 t156 t158 true) = some r := by rw [if_neg (show ¬ (false = true) by decide)] at H; exact H
        clear H
        have H := H1
        clear H1
        have H' := Aside0.mk H
        clear H
        go_wp2
        go_meet
        case rel => exact ⟨_, (true), (by first | rfl | (simp; done) | (simp [*]; done)), H', ⟨by first | omega | exact Nat.le_refl _⟩, ⟨by repeat (first | (with_reducible first | exact HB.out | apply below_alloc | apply pw_below_drewN | apply below_drew1) | exact HB.out)⟩⟩
    · replace c10 := Bool.eq_false_iff.mpr c10
      subst c10
      have H1 : (instarlaw04_CodeOrder.j0 k l0 l1 t156 t158 true) = some r := by rw [if_neg (show ¬ (false = true) by decide)] at H; exact H
      clear H
      have H := H1
      clear H1
      have H' := Aside0.mk H
      clear H
      go_wp2
      go_meet
      case rel => exact ⟨_, (true), (by first | rfl | (simp; done) | (simp [*]; done)), H', ⟨by first | omega | exact Nat.le_refl _⟩, ⟨by repeat (first | (with_reducible first | exact HB.out | apply below_alloc | apply pw_below_drewN | apply below_drew1) | exact HB.out)⟩⟩
  case rest =>
    clear HC7
    try clear c1
    try clear p2
    try clear c5
    try clear c7
    try clear c9
    try clear c10
    try clear c11
    try clear c12
    try clear c12b0
    try clear c12b1
    obtain ⟨kq, x39_6, rfl, HA, HJ6, HB⟩ := hcut
    cases kq with
    | zero => exact absurd HA.out (by simp [instarlaw04_CodeOrder.j0])
    | succ kj6 =>
      have H := HA.out
      clear HA
      simp only [instarlaw04_CodeOrder.j0] at H
      by_cases c13 : x39_6 = true
      · subst c13
        have H1 : ((instarlaw04_alive.f kj6).bind fun t160 => (some t160)) = some r := by rw [if_pos rfl] at H; exact H
        clear H
        have H := H1
        clear H1
        replace H := Option.bind_eq_some_iff.mp H
        obtain ⟨t160, A140, H⟩ := H
        replace H : (some t160) = some r := H
        have A14 := Aside0.mk A140
        clear A140
        obtain rfl := Option.some.inj H
        go_wp2_with (first | ((with_reducible refine gate_callee (f := 8) rfl ?_); refine goesL_ (some 40) rfl rfl Tryd.func8 (by kernel_rfl) rfl #[] rfl (by (try simp only [List.map_toArray, List.map_cons, List.map_nil]); first | done | rfl | (simp only [List.length_drop, List.length_take]; rfl)) ?_; (with_reducible refine (instarlaw04_alive.calls kj6  t160 _ A14.out).mono ?_); rintro e w15 ⟨rfl, hb⟩; refine ⟨_, rfl, ?_⟩; have n0_ := Aside0.mk (below_step (by repeat (first | (with_reducible first | exact HB.out | apply below_alloc | apply pw_below_drewN | apply below_drew1) | exact HB.out)) hb); clear HB; have HB := n0_; clear n0_; (try clear hb); (try clear hb2); (try clear hk); (try clear hi)))
        go_ret
        exact ⟨by first | rfl | (simp [errW_none, errW_some] <;> rfl) | (simp [*, errW_none, errW_some] <;> rfl), by repeat (first | (with_reducible first | exact HB.out | apply below_alloc | apply pw_below_drewN | apply below_drew1) | exact HB.out)⟩
      · replace c13 := Bool.eq_false_iff.mpr c13
        subst c13
        have H1 : ((instarref04_Compare.f kj6 l0 l1).bind fun t161 => ((instarlaw04_alive.f kj6).bind fun t162 => (if t162 = true then (if ((Op.bytesLess t156.toList t158.toList) == (decide (t161 < 0))) = true then (some ((t156.toList == t158.toList) == (t161 == 0))) else (some false)) else (some false)))) = some r := by rw [if_neg (show ¬ (false = true) by decide)] at H; exact H
        clear H
        have H := H1
        clear H1
        replace H := Option.bind_eq_some_iff.mp H
        obtain ⟨t161, A160, H⟩ := H
        replace H : ((instarlaw04_alive.f kj6).bind fun t162 => (if t162 = true then (if ((Op.bytesLess t156.toList t158.toList) == (decide (t161 < 0))) = true then (some ((t156.toList == t158.toList) == (t161 == 0))) else (some false)) else (some false))) = some r := H
        have A16 := Aside0.mk A160
        clear A160
        replace H := Option.bind_eq_some_iff.mp H
        obtain ⟨t162, A170, H⟩ := H
        replace H : (if t162 = true then (if ((Op.bytesLess t156.toList t158.toList) == (decide (t161 < 0))) = true then (some ((t156.toList == t158.toList) == (t161 == 0))) else (some false)) else (some false)) = some r := H
        have A17 := Aside0.mk A170
        clear A170
        by_cases c18 : t162 = true
        · subst c18
          have H1 : (if ((Op.bytesLess t156.toList t158.toList) == (decide (t161 < 0))) = true then (some ((t156.toList == t158.toList) == (t161 == 0))) else (some false)) = some r := by rw [if_pos rfl] at H; exact H
          clear H
          have H := H1
          clear H1
          by_cases c19 : ((Op.bytesLess t156.toList t158.toList) == (decide (t161 < 0))) = true
          · rw [if_pos c19] at H
            have c19b0 : ((Op.bytesLess t156.toList t158.toList) == (decide (t161 < 0))) = true := c19
            (try (have c19b1 : decide ((Op.bytesLess t156.toList t158.toList) = (decide (t161 < 0))) = true := by simpa using c19))
            (try (have c19b2 : ((Op.bytesLess t156.toList t158.toList) == (decide (t161 < 0))) = true := by simpa using c19))
            clear c19
            obtain rfl := Option.some.inj H
            go_wp2_with (first | ((with_reducible refine gate_callee (f := 14) rfl ?_); refine goesL_ (some 43) rfl rfl Tryd.func14 (by kernel_rfl) rfl #[.slice A0 l0.length c0, .slice A1 l1.length c1] rfl (by (try simp only [List.map_toArray, List.map_cons, List.map_nil]); first | done | rfl | (simp only [List.length_drop, List.length_take]; rfl)) ?_; (with_reducible refine (instarref04_Compare.calls kj6 _ _ l0 _ _ l1 t161 _ ?side1 ?side2 ?side3 ?side4 A16.out).mono ?_); (case side1 => repeat (first | exact (Kd.C_below HR0.out HB.out) | (with_reducible refine Kd.C_alloc ?_ _) | (with_reducible refine Kd.C_drewN ?_ _) | (with_reducible refine Kd.C_drew ?_))); (case side2 => exact HC0.out); (case side3 => repeat (first | exact (Kd.C_below HR1.out HB.out) | (with_reducible refine Kd.C_alloc ?_ _) | (with_reducible refine Kd.C_drewN ?_ _) | (with_reducible refine Kd.C_drew ?_))); (case side4 => exact HC1.out); rintro e w20 ⟨rfl, hb⟩; refine ⟨_, rfl, ?_⟩; have n0_ := Aside0.mk (below_step (by repeat (first | (with_reducible first | exact HB.out | apply below_alloc | apply pw_below_drewN | apply below_drew1) | exact HB.out)) hb); clear HB; have HB := n0_; clear n0_; (try clear hb); (try clear hb2); (try clear hk); (try clear hi)) | ((with_reducible refine gate_callee (f := 8) rfl ?_); refine goesL_ (some 44) rfl rfl Tryd.func8 (by kernel_rfl) rfl #[] rfl (by (try simp only [List.map_toArray, List.map_cons, List.map_nil]); first | done | rfl | (simp only [List.length_drop, List.length_take]; rfl)) ?_; (with_reducible refine (instarlaw04_alive.calls kj6  true _ A17.out).mono ?_); rintro e w21 ⟨rfl, hb⟩; refine ⟨_, rfl, ?_⟩; have n0_ := Aside0.mk (below_step (by repeat (first | (with_reducible first | exact HB.out | apply below_alloc | apply pw_below_drewN | apply below_drew1) | exact HB.out)) hb); clear HB; have HB := n0_; clear n0_; (try clear hb); (try clear hb2); (try clear hk); (try clear hi)))
            go_ret
            exact ⟨by first | rfl | (simp [errW_none, errW_some] <;> rfl) | (simp [*, errW_none, errW_some] <;> rfl), by repeat (first | (with_reducible first | exact HB.out | apply below_alloc | apply pw_below_drewN | apply below_drew1) | exact HB.out)⟩
          · rw [if_neg c19] at H
            have c19b0 : ((Op.bytesLess t156.toList t158.toList) == (decide (t161 < 0))) = false := by simpa using c19
            (try (have c19b1 : decide ((Op.bytesLess t156.toList t158.toList) = (decide (t161 < 0))) = false := by simpa using c19))
            (try (have c19b2 : ((Op.bytesLess t156.toList t158.toList) == (decide (t161 < 0))) = false := by simpa using c19))
            (try (have c19b3 : ¬ ((Op.bytesLess t156.toList t158.toList) = (decide (t161 < 0))) := by simpa using c19))
            clear c19
            obtain rfl := Option.some.inj H
            go_wp2_with (first | ((with_reducible refine gate_callee (f := 14) rfl ?_); refine goesL_ (some 43) rfl rfl Tryd.func14 (by kernel_rfl) rfl #[.slice A0 l0.length c0, .slice A1 l1.length c1] rfl (by (try simp only [List.map_toArray, List.map_cons, List.map_nil]); first | done | rfl | (simp only [List.length_drop, List.length_take]; rfl)) ?_; (with_reducible refine (instarref04_Compare.calls kj6 _ _ l0 _ _ l1 t161 _ ?side1 ?side2 ?side3 ?side4 A16.out).mono ?_); (case side1 => repeat (first | exact (Kd.C_below HR0.out HB.out) | (with_reducible refine Kd.C_alloc ?_ _) | (with_reducible refine Kd.C_drewN ?_ _) | (with_reducible refine Kd.C_drew ?_))); (case side2 => exact HC0.out); (case side3 => repeat (first | exact (Kd.C_below HR1.out HB.out) | (with_reducible refine Kd.C_alloc ?_ _) | (with_reducible refine Kd.C_drewN ?_ _) | (with_reducible refine Kd.C_drew ?_))); (case side4 => exact HC1.out); rintro e w22 ⟨rfl, hb⟩; refine ⟨_, rfl, ?_⟩; have n0_ := Aside0.mk (below_step (by repeat (first | (with_reducible first | exact HB.out | apply below_alloc | apply pw_below_drewN | apply below_drew1) | exact HB.out)) hb); clear HB; have HB := n0_; clear n0_; (try clear hb); (try clear hb2); (try clear hk); (try clear hi)) | ((with_reducible refine gate_callee (f := 8) rfl ?_); refine goesL_ (some 44) rfl rfl Tryd.func8 (by kernel_rfl) rfl #[] rfl (by (try simp only [List.map_toArray, List.map_cons, List.map_nil]); first | done | rfl | (simp only [List.length_drop, List.length_take]; rfl)) ?_; (with_reducible refine (instarlaw04_alive.calls kj6  true _ A17.out).mono ?_); rintro e w23 ⟨rfl, hb⟩; refine ⟨_, rfl, ?_⟩; have n0_ := Aside0.mk (below_step (by repeat (first | (with_reducible first | exact HB.out | apply below_alloc | apply pw_below_drewN | apply below_drew1) | exact HB.out)) hb); clear HB; have HB := n0_; clear n0_; (try clear hb); (try clear hb2); (try clear hk); (try clear hi)))
            go_ret
            exact ⟨by first | rfl | (simp [errW_none, errW_some] <;> rfl) | (simp [*, errW_none, errW_some] <;> rfl), by repeat (first | (with_reducible first | exact HB.out | apply below_alloc | apply pw_below_drewN | apply below_drew1) | exact HB.out)⟩
        · replace c18 := Bool.eq_false_iff.mpr c18
          subst c18
          have H1 : (some false) = some r := by rw [if_neg (show ¬ (false = true) by decide)] at H; exact H
          clear H
          have H := H1
          clear H1
          obtain rfl := Option.some.inj H
          go_wp2_with (first | ((with_reducible refine gate_callee (f := 14) rfl ?_); refine goesL_ (some 43) rfl rfl Tryd.func14 (by kernel_rfl) rfl #[.slice A0 l0.length c0, .slice A1 l1.length c1] rfl (by (try simp only [List.map_toArray, List.map_cons, List.map_nil]); first | done | rfl | (simp only [List.length_drop, List.length_take]; rfl)) ?_; (with_reducible refine (instarref04_Compare.calls kj6 _ _ l0 _ _ l1 t161 _ ?side1 ?side2 ?side3 ?side4 A16.out).mono ?_); (case side1 => repeat (first | exact (Kd.C_below HR0.out HB.out) | (with_reducible refine Kd.C_alloc ?_ _) | (with_reducible refine Kd.C_drewN ?_ _) | (with_reducible refine Kd.C_drew ?_))); (case side2 => exact HC0.out); (case side3 => repeat (first | exact (Kd.C_below HR1.out HB.out) | (with_reducible refine Kd.C_alloc ?_ _) | (with_reducible refine Kd.C_drewN ?_ _) | (with_reducible refine Kd.C_drew ?_))); (case side4 => exact HC1.out); rintro e w24 ⟨rfl, hb⟩; refine ⟨_, rfl, ?_⟩; have n0_ := Aside0.mk (below_step (by repeat (first | (with_reducible first | exact HB.out | apply below_alloc | apply pw_below_drewN | apply below_drew1) | exact HB.out)) hb); clear HB; have HB := n0_; clear n0_; (try clear hb); (try clear hb2); (try clear hk); (try clear hi)) | ((with_reducible refine gate_callee (f := 8) rfl ?_); refine goesL_ (some 44) rfl rfl Tryd.func8 (by kernel_rfl) rfl #[] rfl (by (try simp only [List.map_toArray, List.map_cons, List.map_nil]); first | done | rfl | (simp only [List.length_drop, List.length_take]; rfl)) ?_; (with_reducible refine (instarlaw04_alive.calls kj6  false _ A17.out).mono ?_); rintro e w25 ⟨rfl, hb⟩; refine ⟨_, rfl, ?_⟩; have n0_ := Aside0.mk (below_step (by repeat (first | (with_reducible first | exact HB.out | apply below_alloc | apply pw_below_drewN | apply below_drew1) | exact HB.out)) hb); clear HB; have HB := n0_; clear n0_; (try clear hb); (try clear hb2); (try clear hk); (try clear hi)))
          go_ret
          exact ⟨by first | rfl | (simp [errW_none, errW_some] <;> rfl) | (simp [*, errW_none, errW_some] <;> rfl), by repeat (first | (with_reducible first | exact HB.out | apply below_alloc | apply pw_below_drewN | apply below_drew1) | exact HB.out)⟩

end Go.Proofs.YtknkaaleafiifaaDoor.Hp
