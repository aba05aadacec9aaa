/- What each function comes to, a contract of its call each (and the row of a law out of its plain statement); no condition beyond what stands in each. -/
import Derived.Test.YtkggdnnhgafopaaDoorK0
import Derived.Test.YtkggdnnhgafopaaDoorK2
namespace Go.Proofs.YtkggdnnhgafopaaDoor.Kp
open Go.RowKit Go.Proofs.YtkggdnnhgafopaaDoorW.PrintWords Go.Proofs.YtkggdnnhgafopaaDoorW.PrintLast Go.Proofs.YtkggdnnhgafopaaDoorW.PrintMore
attribute [local go_sem] max2_int min2_int max_two min_two max_three min_three max_four min_four   -- for this text's walks alone
set_option linter.unusedVariables false
set_option linter.unusedSimpArgs false

/-! ### instarref08_one: function 60 -/
mutual
def instarref08_one.j0 : Nat → ByteArray → Bool → Bool → Int → Bool → Option (Int × ByteArray × Int × Int)
  | 0, _, _, _, _, _ => none
  | k + 1, x0, x4, x5, x6, x18 => if x18 = true then (if 0 ≤ x6 then (if x6 ≤ (x0.size : Int) then (some (0, x0.extract 0 (x6 : Int).toNat, 0, x6)) else (none)) else (none)) else (if x5 = true then (instarref08_one.j1 k x0 x4 x5 x6 (decide (x6 ≤ 19))) else (instarref08_one.j1 k x0 x4 x5 x6 false))
def instarref08_one.j1 : Nat → ByteArray → Bool → Bool → Int → Bool → Option (Int × ByteArray × Int × Int)
  | 0, _, _, _, _, _ => none
  | k + 1, x0, x4, x5, x6, x29 => if x29 = true then (if 0 ≤ x6 then (if x6 ≤ (x0.size : Int) then (some (1, x0.extract 0 (x6 : Int).toNat, 0, x6)) else (none)) else (none)) else (if x4 = true then (instarref08_one.j2 k x0 true) else (instarref08_one.j2 k x0 x5))
def instarref08_one.j2 : Nat → ByteArray → Bool → Option (Int × ByteArray × Int × Int)
  | 0, _, _ => none
  | k + 1, x0, x40 => if x40 = true then (some (0, (⟨#[]⟩ : ByteArray), 0, 0)) else (if 0 < (x0.size : Int) then (if (bt x0 0) = 39 then ((instarref08_quote.f k x0).bind fun bt108 => (if (bt108.1.size : Int) > 200 then (some (0, (⟨#[]⟩ : ByteArray), 0, 0)) else (some (2, bt108.1, 0, bt108.2)))) else (if (x0.size : Int) > 1 then (if 0 ≤ 2 then (if 2 ≤ (x0.size : Int) then (if (x0.extract 0 2).toList = ([60, 61] : List UInt8) then (instarref08_one.j3 k x0 true) else (if (x0.extract 0 2).toList = ([62, 61] : List UInt8) then (instarref08_one.j3 k x0 true) else (instarref08_one.j3 k x0 ((x0.extract 0 2).toList == ([60, 62] : List UInt8))))) else (none)) else (none)) else (instarref08_one.j3 k x0 false))) else (none))
def instarref08_one.j3 : Nat → ByteArray → Bool → Option (Int × ByteArray × Int × Int)
  | 0, _, _ => none
  | k + 1, x0, x79 => if x79 = true then (if 0 ≤ 2 then (if 2 ≤ (x0.size : Int) then (some (3, x0.extract 0 2, 0, 2)) else (none)) else (none)) else (if 0 < (x0.size : Int) then (if (bt x0 0) = 40 then (if 0 ≤ 1 then (if 1 ≤ (x0.size : Int) then (some (3, x0.extract 0 1, 0, 1)) else (none)) else (none)) else (if (bt x0 0) = 41 then (if 0 ≤ 1 then (if 1 ≤ (x0.size : Int) then (some (3, x0.extract 0 1, 0, 1)) else (none)) else (none)) else (if (bt x0 0) = 44 then (if 0 ≤ 1 then (if 1 ≤ (x0.size : Int) then (some (3, x0.extract 0 1, 0, 1)) else (none)) else (none)) else (if (bt x0 0) = 61 then (if 0 ≤ 1 then (if 1 ≤ (x0.size : Int) then (some (3, x0.extract 0 1, 0, 1)) else (none)) else (none)) else (if (bt x0 0) = 60 then (if 0 ≤ 1 then (if 1 ≤ (x0.size : Int) then (some (3, x0.extract 0 1, 0, 1)) else (none)) else (none)) else (if (bt x0 0) = 62 then (if 0 ≤ 1 then (if 1 ≤ (x0.size : Int) then (some (3, x0.extract 0 1, 0, 1)) else (none)) else (none)) else (if (bt x0 0) = 43 then (if 0 ≤ 1 then (if 1 ≤ (x0.size : Int) then (some (3, x0.extract 0 1, 0, 1)) else (none)) else (none)) else (if (bt x0 0) = 45 then (if 0 ≤ 1 then (if 1 ≤ (x0.size : Int) then (some (3, x0.extract 0 1, 0, 1)) else (none)) else (none)) else (if (bt x0 0) = 42 then (if 0 ≤ 1 then (if 1 ≤ (x0.size : Int) then (some (3, x0.extract 0 1, 0, 1)) else (none)) else (none)) else (some (0, (⟨#[]⟩ : ByteArray), 0, 0))))))))))) else (none))
end
def instarref08_one.f (k : Nat) (a0 : ByteArray) : Option (Int × ByteArray × Int × Int) := if 0 < (a0.size : Int) then ((instarref08_letter.f (bt a0 0)).bind fun t105 => ((instarref08_figure.f (bt a0 0)).bind fun t106 => ((instarref08_run.f k a0 t105).bind fun t107 => (if t105 = true then (instarref08_one.j0 k a0 t105 t106 t107 (decide (t107 ≤ 20))) else (instarref08_one.j0 k a0 t105 t106 t107 false))))) else (none)
theorem instarref08_one.mono_l : ∀ k, (∀ y0 y1 y2 y3 y4, LeO (instarref08_one.j0 k y0 y1 y2 y3 y4) (instarref08_one.j0 (k + 1) y0 y1 y2 y3 y4)) ∧ (∀ y0 y1 y2 y3 y4, LeO (instarref08_one.j1 k y0 y1 y2 y3 y4) (instarref08_one.j1 (k + 1) y0 y1 y2 y3 y4)) ∧ (∀ y0 y1, LeO (instarref08_one.j2 k y0 y1) (instarref08_one.j2 (k + 1) y0 y1)) ∧ (∀ y0 y1, LeO (instarref08_one.j3 k y0 y1) (instarref08_one.j3 (k + 1) y0 y1))
  | 0 => ⟨fun _ _ _ _ _ r h => by simp [instarref08_one.j0] at h, fun _ _ _ _ _ r h => by simp [instarref08_one.j1] at h, fun _ _ r h => by simp [instarref08_one.j2] at h, fun _ _ r h => by simp [instarref08_one.j3] at h⟩
  | k + 1 => by
    obtain ⟨ih0, ih1, ih2, ih3⟩ := instarref08_one.mono_l k
    refine ⟨?_, ?_, ?_, ?_⟩
    · intro y0 y1 y2 y3 y4
      unfold instarref08_one.j0
      repeat' first
      | (with_reducible exact ih0 _ _ _ _ _)
      | (with_reducible exact ih1 _ _ _ _ _)
      | (with_reducible exact ih2 _ _)
      | (with_reducible exact ih3 _ _)
      | (with_reducible exact instarref08_quote.mono _ _)
      | (with_reducible exact instarref08_run.mono _ _ _)
      | (with_reducible exact LeO.refl _)
      | (with_reducible exact LeO.none _)
      | (with_reducible refine LeO.ite ?_ ?_)
      | (with_reducible refine LeO.bind ?_ (fun _ => ?_))
      | exact ih0 _ _ _ _ _
      | exact ih1 _ _ _ _ _
      | exact ih2 _ _
      | exact ih3 _ _
      | exact instarref08_quote.mono _ _
      | exact instarref08_run.mono _ _ _
      | exact LeO.none _
      | refine LeO.ite ?_ ?_
      | refine LeO.bind ?_ (fun _ => ?_)
    · intro y0 y1 y2 y3 y4
      unfold instarref08_one.j1
      repeat' first
      | (with_reducible exact ih0 _ _ _ _ _)
      | (with_reducible exact ih1 _ _ _ _ _)
      | (with_reducible exact ih2 _ _)
      | (with_reducible exact ih3 _ _)
      | (with_reducible exact instarref08_quote.mono _ _)
      | (with_reducible exact instarref08_run.mono _ _ _)
      | (with_reducible exact LeO.refl _)
      | (with_reducible exact LeO.none _)
      | (with_reducible refine LeO.ite ?_ ?_)
      | (with_reducible refine LeO.bind ?_ (fun _ => ?_))
      | exact ih0 _ _ _ _ _
      | exact ih1 _ _ _ _ _
      | exact ih2 _ _
      | exact ih3 _ _
      | exact instarref08_quote.mono _ _
      | exact instarref08_run.mono _ _ _
      | exact LeO.none _
      | refine LeO.ite ?_ ?_
      | refine LeO.bind ?_ (fun _ => ?_)
    · intro y0 y1
      unfold instarref08_one.j2
      repeat' first
      | (with_reducible exact ih0 _ _ _ _ _)
      | (with_reducible exact ih1 _ _ _ _ _)
      | (with_reducible exact ih2 _ _)
      | (with_reducible exact ih3 _ _)
      | (with_reducible exact instarref08_quote.mono _ _)
      | (with_reducible exact instarref08_run.mono _ _ _)
      | (with_reducible exact LeO.refl _)
      | (with_reducible exact LeO.none _)
      | (with_reducible refine LeO.ite ?_ ?_)
      | (with_reducible refine LeO.bind ?_ (fun _ => ?_))
      | exact ih0 _ _ _ _ _
      | exact ih1 _ _ _ _ _
      | exact ih2 _ _
      | exact ih3 _ _
      | exact instarref08_quote.mono _ _
      | exact instarref08_run.mono _ _ _
      | exact LeO.none _
      | refine LeO.ite ?_ ?_
      | refine LeO.bind ?_ (fun _ => ?_)
    · intro y0 y1
      unfold instarref08_one.j3
      repeat' first
      | (with_reducible exact ih0 _ _ _ _ _)
      | (with_reducible exact ih1 _ _ _ _ _)
      | (with_reducible exact ih2 _ _)
      | (with_reducible exact ih3 _ _)
      | (with_reducible exact instarref08_quote.mono _ _)
      | (with_reducible exact instarref08_run.mono _ _ _)
      | (with_reducible exact LeO.refl _)
      | (with_reducible exact LeO.none _)
      | (with_reducible refine LeO.ite ?_ ?_)
      | (with_reducible refine LeO.bind ?_ (fun _ => ?_))
      | exact ih0 _ _ _ _ _
      | exact ih1 _ _ _ _ _
      | exact ih2 _ _
      | exact ih3 _ _
      | exact instarref08_quote.mono _ _
      | exact instarref08_run.mono _ _ _
      | exact LeO.none _
      | refine LeO.ite ?_ ?_
      | refine LeO.bind ?_ (fun _ => ?_)
theorem instarref08_one.mono : ∀ a0 k, LeO (instarref08_one.f k a0) (instarref08_one.f (k + 1) a0) := by
  intro a0 k
  obtain ⟨ih0, ih1, ih2, ih3⟩ := instarref08_one.mono_l k
  unfold instarref08_one.f
  repeat' first
      | (with_reducible exact ih0 _ _ _ _ _)
      | (with_reducible exact ih1 _ _ _ _ _)
      | (with_reducible exact ih2 _ _)
      | (with_reducible exact ih3 _ _)
      | (with_reducible exact instarref08_quote.mono _ _)
      | (with_reducible exact instarref08_run.mono _ _ _)
      | (with_reducible exact LeO.refl _)
      | (with_reducible exact LeO.none _)
      | (with_reducible refine LeO.ite ?_ ?_)
      | (with_reducible refine LeO.bind ?_ (fun _ => ?_))
      | exact ih0 _ _ _ _ _
      | exact ih1 _ _ _ _ _
      | exact ih2 _ _
      | exact ih3 _ _
      | exact instarref08_quote.mono _ _
      | exact instarref08_run.mono _ _ _
      | exact LeO.none _
      | refine LeO.ite ?_ ?_
      | refine LeO.bind ?_ (fun _ => ?_)
set_option maxHeartbeats 8000000 in
set_option maxRecDepth 100000 in
theorem instarref08_one.calls (k : Nat) (a0 : ByteArray) (r1 : Int) (r2 : ByteArray) (r3 : Int) (r4 : Int) (w : World) (h : instarref08_one.f k a0 = some (r1, r2, r3, r4)) :
    Calls Tryd.prog 60 #[.string a0] w fun e w' => e = .returned (.tuple #[.agg #[.int .i64 r1, .string r2, .int .i64 r3], .int .i64 r4]) ∧ Below w.heap.size w w' := by
  have hu76 := Tryd.underlying76
  have HB := Aside0.mk (Below.refl w.heap.size w)
  have H : (if 0 < (a0.size : Int) then ((instarref08_letter.f (bt a0 0)).bind fun t105 => ((instarref08_figure.f (bt a0 0)).bind fun t106 => ((instarref08_run.f k a0 t105).bind fun t107 => (if t105 = true then (instarref08_one.j0 k a0 t105 t106 t107 (decide (t107 ≤ 20))) else (instarref08_one.j0 k a0 t105 t106 t107 false))))) else (none)) = some (r1, r2, r3, r4) := h
  clear h
  by_cases c2 : 0 < (a0.size : Int)
  · rw [if_pos c2] at H
    have c2b0 : decide (0 < (a0.size : Int)) = true := decide_eq_true c2
    have c2b1 : decide (0 < a0.size) = true := decide_eq_true (by omega)
    clear c2
    replace H := Option.bind_eq_some_iff.mp H
    obtain ⟨t105, A40, H⟩ := H
    replace H : ((instarref08_figure.f (bt a0 0)).bind fun t106 => ((instarref08_run.f k a0 t105).bind fun t107 => (if t105 = true then (instarref08_one.j0 k a0 t105 t106 t107 (decide (t107 ≤ 20))) else (instarref08_one.j0 k a0 t105 t106 t107 false)))) = some (r1, r2, r3, r4) := H
    have A4 := Aside0.mk A40
    clear A40
    replace H := Option.bind_eq_some_iff.mp H
    obtain ⟨t106, A60, H⟩ := H
    replace H : ((instarref08_run.f k a0 t105).bind fun t107 => (if t105 = true then (instarref08_one.j0 k a0 t105 t106 t107 (decide (t107 ≤ 20))) else (instarref08_one.j0 k a0 t105 t106 t107 false))) = some (r1, r2, r3, r4) := H
    have A6 := Aside0.mk A60
    clear A60
    replace H := Option.bind_eq_some_iff.mp H
    obtain ⟨t107, A70, H⟩ := H
    replace H : (if t105 = true then (instarref08_one.j0 k a0 t105 t106 t107 (decide (t107 ≤ 20))) else (instarref08_one.j0 k a0 t105 t106 t107 false)) = some (r1, r2, r3, r4) := H
    have A7 := Aside0.mk A70
    clear A70
    have HC8 := Aside0.mk H
    clear H
    go_enter Tryd.func60, Tryd.ntmps60
    go_upto_region 4 with (first | ((with_reducible refine gate_dst (N := 2) rfl ?_); refine box_event ?hg (N := 2) ?hd (cs := #[.int .i64 0, .string (⟨#[]⟩ : ByteArray), .int .i64 0]) (t := 76) ?hr ?_; (case hd => rfl); (case hg => rfl); (case hr => first | (go_simp; done) | (go_simp; rfl)); intro gb104 hg w9 hbox hb; have n0_ := Aside0.mk (below_step (by repeat (first | (with_reducible first | exact HB.out | apply below_alloc | apply pw_below_drewN | apply below_drew1) | exact HB.out)) hb); have n1_ := Aside0.mk (hbox); have n2_ := Aside0.mk ((by rw [hg]; exact (below_size (by repeat (first | (with_reducible first | exact HB.out | apply below_alloc | apply pw_below_drewN | apply below_drew1) | exact HB.out))) : w.heap.size ≤ gb104)); have n3_ := Aside0.mk ((by rw [hg]; exact (below_size (by repeat (first | (with_reducible first | exact HB.out | apply below_alloc | apply pw_below_drewN | apply below_drew1) | exact HB.out))) : w.heap.size ≤ gb104)); clear HB; have HB := n0_; have BK104 := n1_; have GW104 := n2_; have GE104 := n3_; clear n0_ n1_ n2_ n3_; clear hb hbox hg; have p3 : 0 ≤ (0 : Int) := (by omega); have q3 : 0 < a0.size := (by have : (0 : Int) < (a0.size : Int) := of_decide_eq_true (by first | (with_reducible assumption) | assumption); omega); have hx3 : ∀ h : 0 < a0.size, ((a0[0]'h).toNat : Int) = bt a0 0 := bt_at a0 0; clear p3; have qi3 : (0 < (a0.size : Int)) = True := eq_true (of_decide_eq_true (by first | (with_reducible assumption) | assumption)); replace q3 := eq_true q3) | ((with_reducible refine gate_callee (f := 78) rfl ?_); refine goesL_ (some 11) rfl rfl Tryd.func78 (by kernel_rfl) rfl #[.int .u8 (bt a0 0)] rfl (by (try simp only [List.map_toArray, List.map_cons, List.map_nil]); first | done | rfl | (simp only [List.length_drop, List.length_take]; rfl)) ?_; (with_reducible refine (instarref08_letter.calls (bt a0 0) t105 _ A4.out).mono ?_); rintro e w' ⟨rfl, ⟨nd, rfl⟩⟩; refine ⟨_, rfl, ?_⟩; have p5 : 0 ≤ (0 : Int) := (by omega); have q5 : 0 < a0.size := (by have : (0 : Int) < (a0.size : Int) := of_decide_eq_true (by first | (with_reducible assumption) | assumption); omega); have hx5 : ∀ h : 0 < a0.size, ((a0[0]'h).toNat : Int) = bt a0 0 := bt_at a0 0; clear p5; have qi5 : (0 < (a0.size : Int)) = True := eq_true (of_decide_eq_true (by first | (with_reducible assumption) | assumption)); replace q5 := eq_true q5) | ((with_reducible refine gate_callee (f := 79) rfl ?_); refine goesL_ (some 14) rfl rfl Tryd.func79 (by kernel_rfl) rfl #[.int .u8 (bt a0 0)] rfl (by (try simp only [List.map_toArray, List.map_cons, List.map_nil]); first | done | rfl | (simp only [List.length_drop, List.length_take]; rfl)) ?_; (with_reducible refine (instarref08_figure.calls (bt a0 0) t106 _ A6.out).mono ?_); rintro e w' ⟨rfl, ⟨nd, rfl⟩⟩; refine ⟨_, rfl, ?_⟩) | ((with_reducible refine gate_callee (f := 80) rfl ?_); refine goesL_ (some 17) rfl rfl Tryd.func80 (by kernel_rfl) rfl #[.string a0, .bool t105] rfl (by (try simp only [List.map_toArray, List.map_cons, List.map_nil]); first | done | rfl | (simp only [List.length_drop, List.length_take]; rfl)) ?_; (with_reducible refine (instarref08_run.calls k a0 t105 t107 _ A7.out).mono ?_); rintro e w' ⟨rfl, ⟨nd, rfl⟩⟩; refine ⟨_, rfl, ?_⟩))
    (try simp only [Act.put, List.setIfInBounds_toArray, List.set_cons_zero, List.set_cons_succ])
    go_cut [18] (fun v18 wc => ∃ (kq : Nat) (x18_7 : Bool), v18 = .bool x18_7 ∧ Aside0 (instarref08_one.j0 kq a0 t105 t106 t107 x18_7 = some (r1, r2, r3, r4)) ∧ Aside0 (kq ≤ k) ∧ Aside0 (wc.heap[gb104]? = some (.cells #[.int .i64 0, .string (⟨#[]⟩ : ByteArray), .int .i64 0] 76 (0, 0))) ∧ Aside0 (Below w.heap.size w wc))
    case first =>
      have H := HC8.out
      clear HC8
      by_cases c10 : t105 = true
      · subst c10
        have H1 : (instarref08_one.j0 k a0 true t106 t107 (decide (t107 ≤ 20))) = some (r1, r2, r3, r4) := by rw [if_pos rfl] at H; exact H
        clear H
        have H := H1
        clear H1
        have H' := Aside0.mk H
        clear H
        go_wp2
        go_meet
        case rel => exact ⟨_, (decide (t107 ≤ 20)), (by first | rfl | (simp; done) | (simp [*]; done)), H', ⟨by first | omega | exact Nat.le_refl _⟩, ⟨by (with_reducible repeat (first | refine blk_drewN ?_ _ | refine blk_drew ?_ | refine blk_alloc ?_ _)); exact BK104.out⟩, ⟨by repeat (first | (with_reducible first | exact HB.out | apply below_alloc | apply pw_below_drewN | apply below_drew1 | refine below_set ?_ GE104.out) | exact HB.out)⟩⟩
      · replace c10 := Bool.eq_false_iff.mpr c10
        subst c10
        have H1 : (instarref08_one.j0 k a0 false t106 t107 false) = some (r1, r2, r3, r4) := by rw [if_neg (show ¬ (false = true) by decide)] at H; exact H
        clear H
        have H := H1
        clear H1
        have H' := Aside0.mk H
        clear H
        go_wp2
        go_meet
        case rel => exact ⟨_, (false), (by first | rfl | (simp; done) | (simp [*]; done)), H', ⟨by first | omega | exact Nat.le_refl _⟩, ⟨by (with_reducible repeat (first | refine blk_drewN ?_ _ | refine blk_drew ?_ | refine blk_alloc ?_ _)); exact BK104.out⟩, ⟨by repeat (first | (with_reducible first | exact HB.out | apply below_alloc | apply pw_below_drewN | apply below_drew1 | refine below_set ?_ GE104.out) | exact HB.out)⟩⟩
    case rest =>
      clear HC8
      try clear c1
      try clear c2
      try clear c2b0
      try clear c2b1
      try clear p2
      try clear p3
      try clear q3
      try clear hx3
      try clear qi3
      try clear p5
      try clear q5
      try clear hx5
      try clear qi5
      try clear c6
      try clear c7
      try clear c8
      try clear c10
      try clear p3
      try clear p5
      try clear q3
      try clear q5
      obtain ⟨kq, x18_7, rfl, HA, HJ7, BK104, HB⟩ := hcut
      cases kq with
      | zero => exact absurd HA.out (by simp [instarref08_one.j0])
      | succ kj7 =>
        have H := HA.out
        clear HA
        simp only [instarref08_one.j0] at H
        by_cases c11 : x18_7 = true
        · subst c11
          have H1 : (if 0 ≤ t107 then (if t107 ≤ (a0.size : Int) then (some (0, a0.extract 0 (t107 : Int).toNat, 0, t107)) else (none)) else (none)) = some (r1, r2, r3, r4) := by rw [if_pos rfl] at H; exact H
          clear H
          have H := H1
          clear H1
          by_cases c12 : 0 ≤ t107
          · rw [if_pos c12] at H
            have c12b0 := eq_true c12
            have c12b1 : decide (0 ≤ t107) = true := decide_eq_true c12
            clear c12
            by_cases c13 : t107 ≤ (a0.size : Int)
            · rw [if_pos c13] at H
              have c13b0 := eq_true c13
              have c13b1 : decide (t107 ≤ (a0.size : Int)) = true := decide_eq_true c13
              clear c13
              simp only [Option.some.injEq, Prod.mk.injEq] at H
              obtain ⟨rfl, rfl, rfl, rfl⟩ := H
              have hcz14_0 : wc.cell? ⟨gb104, 0, none⟩ = some (.int .i64 0) := (blk_cell BK104.out 0).trans rfl
              have hcz14_1 : wc.cell? ⟨gb104, 1, none⟩ = some (.string (⟨#[]⟩ : ByteArray)) := (blk_cell BK104.out 1).trans rfl
              have hcz14_2 : wc.cell? ⟨gb104, 2, none⟩ = some (.int .i64 0) := (blk_cell BK104.out 2).trans rfl
              have hfz14_0 := blk_frozen BK104.out 0
              have hfz14_1 := blk_frozen BK104.out 1
              have hfz14_2 := blk_frozen BK104.out 2
              go_wp2
              refine bodyPost_ret (results_ct rfl _ _ gb104 76 #[.int .i64 0, .string (a0.extract 0 (t107 : Int).toNat), .int .i64 0] (0, 0) _ rfl (by (with_reducible repeat (first | refine blk_drewN ?_ _ | refine blk_drew ?_ | refine blk_alloc ?_ _)); refine blk_put (cs := #[.int .i64 0, .string (a0.extract 0 (t107 : Int).toNat), .int .i64 0]) ?_ 2 _ rfl; (with_reducible repeat (first | refine blk_drewN ?_ _ | refine blk_drew ?_ | refine blk_alloc ?_ _)); refine blk_put (cs := #[.int .i64 0, .string (⟨#[]⟩ : ByteArray), .int .i64 0]) ?_ 1 _ rfl; (with_reducible repeat (first | refine blk_drewN ?_ _ | refine blk_drew ?_ | refine blk_alloc ?_ _)); refine blk_put (cs := #[.int .i64 0, .string (⟨#[]⟩ : ByteArray), .int .i64 0]) ?_ 0 _ rfl; (with_reducible repeat (first | refine blk_drewN ?_ _ | refine blk_drew ?_ | refine blk_alloc ?_ _)); exact BK104.out) Tryd.underlying76 rfl (by kernel_rfl)) rfl ?_
              exact ⟨by first | rfl | (simp [errW_none, errW_some] <;> rfl) | (simp [*, errW_none, errW_some] <;> rfl), by repeat (first | (with_reducible first | exact HB.out | apply below_alloc | apply pw_below_drewN | apply below_drew1 | refine below_set ?_ GE104.out) | exact HB.out)⟩
            · rw [if_neg c13] at H
              exact absurd H (by simp)
          · rw [if_neg c12] at H
            exact absurd H (by simp)
        · replace c11 := Bool.eq_false_iff.mpr c11
          subst c11
          have H1 : (if t106 = true then (instarref08_one.j1 kj7 a0 t105 t106 t107 (decide (t107 ≤ 19))) else (instarref08_one.j1 kj7 a0 t105 t106 t107 false)) = some (r1, r2, r3, r4) := by rw [if_neg (show ¬ (false = true) by decide)] at H; exact H
          clear H
          have H := H1
          clear H1
          have HC15 := Aside0.mk H
          clear H
          go_upto_region 6 with (fail)
          go_cut [29] (fun v29 wc => ∃ (kq : Nat) (x29_14 : Bool), v29 = .bool x29_14 ∧ Aside0 (instarref08_one.j1 kq a0 t105 t106 t107 x29_14 = some (r1, r2, r3, r4)) ∧ Aside0 (kq ≤ kj7) ∧ Aside0 (wc.heap[gb104]? = some (.cells #[.int .i64 0, .string (⟨#[]⟩ : ByteArray), .int .i64 0] 76 (0, 0))) ∧ Aside0 (Below w.heap.size w wc))
          case first =>
            have H := HC15.out
            clear HC15
            by_cases c16 : t106 = true
            · subst c16
              have H1 : (instarref08_one.j1 kj7 a0 t105 true t107 (decide (t107 ≤ 19))) = some (r1, r2, r3, r4) := by rw [if_pos rfl] at H; exact H
              clear H
              have H := H1
              clear H1
              have H' := Aside0.mk H
              clear H
              go_wp2
              go_meet
              case rel => exact ⟨_, (decide (t107 ≤ 19)), (by first | rfl | (simp; done) | (simp [*]; done)), H', ⟨by have := HJ7.out; first | omega | exact Nat.le_refl _⟩, ⟨by (with_reducible repeat (first | refine blk_drewN ?_ _ | refine blk_drew ?_ | refine blk_alloc ?_ _)); exact BK104.out⟩, ⟨by repeat (first | (with_reducible first | exact HB.out | apply below_alloc | apply pw_below_drewN | apply below_drew1 | refine below_set ?_ GE104.out) | exact HB.out)⟩⟩
            · replace c16 := Bool.eq_false_iff.mpr c16
              subst c16
              have H1 : (instarref08_one.j1 kj7 a0 t105 false t107 false) = some (r1, r2, r3, r4) := by rw [if_neg (show ¬ (false = true) by decide)] at H; exact H
              clear H
              have H := H1
              clear H1
              have H' := Aside0.mk H
              clear H
              go_wp2
              go_meet
              case rel => exact ⟨_, (false), (by first | rfl | (simp; done) | (simp [*]; done)), H', ⟨by have := HJ7.out; first | omega | exact Nat.le_refl _⟩, ⟨by (with_reducible repeat (first | refine blk_drewN ?_ _ | refine blk_drew ?_ | refine blk_alloc ?_ _)); exact BK104.out⟩, ⟨by repeat (first | (with_reducible first | exact HB.out | apply below_alloc | apply pw_below_drewN | apply below_drew1 | refine below_set ?_ GE104.out) | exact HB.out)⟩⟩
          case rest =>
            clear HC15
            try clear c1
            try clear c2
            try clear c2b0
            try clear c2b1
            try clear p2
            try clear p3
            try clear q3
            try clear hx3
            try clear qi3
            try clear p5
            try clear q5
            try clear hx5
            try clear qi5
            try clear c6
            try clear c7
            try clear c8
            try clear c10
            try clear c11
            try clear c12
            try clear c12b0
            try clear c12b1
            try clear c13
            try clear c13b0
            try clear c13b1
            try clear c16
            try clear hcz14_0
            try clear hcz14_1
            try clear hcz14_2
            try clear hfz14_0
            try clear hfz14_1
            try clear hfz14_2
            try clear p2
            try clear p3
            try clear p5
            try clear q3
            try clear q5
            obtain ⟨kq, x29_14, rfl, HA, HJ14, BK104, HB⟩ := hcut
            cases kq with
            | zero => exact absurd HA.out (by simp [instarref08_one.j1])
            | succ kj14 =>
              have H := HA.out
              clear HA
              simp only [instarref08_one.j1] at H
              by_cases c17 : x29_14 = true
              · subst c17
                have H1 : (if 0 ≤ t107 then (if t107 ≤ (a0.size : Int) then (some (1, a0.extract 0 (t107 : Int).toNat, 0, t107)) else (none)) else (none)) = some (r1, r2, r3, r4) := by rw [if_pos rfl] at H; exact H
                clear H
                have H := H1
                clear H1
                by_cases c18 : 0 ≤ t107
                · rw [if_pos c18] at H
                  have c18b0 := eq_true c18
                  have c18b1 : decide (0 ≤ t107) = true := decide_eq_true c18
                  clear c18
                  by_cases c19 : t107 ≤ (a0.size : Int)
                  · rw [if_pos c19] at H
                    have c19b0 := eq_true c19
                    have c19b1 : decide (t107 ≤ (a0.size : Int)) = true := decide_eq_true c19
                    clear c19
                    simp only [Option.some.injEq, Prod.mk.injEq] at H
                    obtain ⟨rfl, rfl, rfl, rfl⟩ := H
                    have hcz20_0 : wc.cell? ⟨gb104, 0, none⟩ = some (.int .i64 0) := (blk_cell BK104.out 0).trans rfl
                    have hcz20_1 : wc.cell? ⟨gb104, 1, none⟩ = some (.string (⟨#[]⟩ : ByteArray)) := (blk_cell BK104.out 1).trans rfl
                    have hcz20_2 : wc.cell? ⟨gb104, 2, none⟩ = some (.int .i64 0) := (blk_cell BK104.out 2).trans rfl
                    have hfz20_0 := blk_frozen BK104.out 0
                    have hfz20_1 := blk_frozen BK104.out 1
                    have hfz20_2 := blk_frozen BK104.out 2
                    go_wp2
                    refine bodyPost_ret (results_ct rfl _ _ gb104 76 #[.int .i64 1, .string (a0.extract 0 (t107 : Int).toNat), .int .i64 0] (0, 0) _ rfl (by (with_reducible repeat (first | refine blk_drewN ?_ _ | refine blk_drew ?_ | refine blk_alloc ?_ _)); refine blk_put (cs := #[.int .i64 1, .string (a0.extract 0 (t107 : Int).toNat), .int .i64 0]) ?_ 2 _ rfl; (with_reducible repeat (first | refine blk_drewN ?_ _ | refine blk_drew ?_ | refine blk_alloc ?_ _)); refine blk_put (cs := #[.int .i64 1, .string (⟨#[]⟩ : ByteArray), .int .i64 0]) ?_ 1 _ rfl; (with_reducible repeat (first | refine blk_drewN ?_ _ | refine blk_drew ?_ | refine blk_alloc ?_ _)); refine blk_put (cs := #[.int .i64 0, .string (⟨#[]⟩ : ByteArray), .int .i64 0]) ?_ 0 _ rfl; (with_reducible repeat (first | refine blk_drewN ?_ _ | refine blk_drew ?_ | refine blk_alloc ?_ _)); exact BK104.out) Tryd.underlying76 rfl (by kernel_rfl)) rfl ?_
                    exact ⟨by first | rfl | (simp [errW_none, errW_some] <;> rfl) | (simp [*, errW_none, errW_some] <;> rfl), by repeat (first | (with_reducible first | exact HB.out | apply below_alloc | apply pw_below_drewN | apply below_drew1 | refine below_set ?_ GE104.out) | exact HB.out)⟩
                  · rw [if_neg c19] at H
                    exact absurd H (by simp)
                · rw [if_neg c18] at H
                  exact absurd H (by simp)
              · replace c17 := Bool.eq_false_iff.mpr c17
                subst c17
                have H1 : (if t105 = true then (instarref08_one.j2 kj14 a0 true) else (instarref08_one.j2 kj14 a0 t106)) = some (r1, r2, r3, r4) := by rw [if_neg (show ¬ (false = true) by decide)] at H; exact H
                clear H
                have H := H1
                clear H1
                have HC21 := Aside0.mk H
                clear H
                go_upto_region 8 with (fail)
                go_cut [40] (fun v40 wc => ∃ (kq : Nat) (x40_20 : Bool), v40 = .bool x40_20 ∧ Aside0 (instarref08_one.j2 kq a0 x40_20 = some (r1, r2, r3, r4)) ∧ Aside0 (kq ≤ kj14) ∧ Aside0 (wc.heap[gb104]? = some (.cells #[.int .i64 0, .string (⟨#[]⟩ : ByteArray), .int .i64 0] 76 (0, 0))) ∧ Aside0 (Below w.heap.size w wc))
                case first =>
                  have H := HC21.out
                  clear HC21
                  by_cases c22 : t105 = true
                  · subst c22
                    have H1 : (instarref08_one.j2 kj14 a0 true) = some (r1, r2, r3, r4) := by rw [if_pos rfl] at H; exact H
                    clear H
                    have H := H1
                    clear H1
                    have H' := Aside0.mk H
                    clear H
                    go_wp2
                    go_meet
                    case rel => exact ⟨_, (true), (by first | rfl | (simp; done) | (simp [*]; done)), H', ⟨by have := HJ7.out; have := HJ14.out; first | omega | exact Nat.le_refl _⟩, ⟨by (with_reducible repeat (first | refine blk_drewN ?_ _ | refine blk_drew ?_ | refine blk_alloc ?_ _)); exact BK104.out⟩, ⟨by repeat (first | (with_reducible first | exact HB.out | apply below_alloc | apply pw_below_drewN | apply below_drew1 | refine below_set ?_ GE104.out) | exact HB.out)⟩⟩
                  · replace c22 := Bool.eq_false_iff.mpr c22
                    subst c22
                    have H1 : (instarref08_one.j2 kj14 a0 t106) = some (r1, r2, r3, r4) := by rw [if_neg (show ¬ (false = true) by decide)] at H; exact H
                    clear H
                    have H := H1
                    clear H1
                    have H' := Aside0.mk H
                    clear H
                    go_wp2
                    go_meet
                    case rel => exact ⟨_, (t106), (by first | rfl | (simp; done) | (simp [*]; done)), H', ⟨by have := HJ7.out; have := HJ14.out; first | omega | exact Nat.le_refl _⟩, ⟨by (with_reducible repeat (first | refine blk_drewN ?_ _ | refine blk_drew ?_ | refine blk_alloc ?_ _)); exact BK104.out⟩, ⟨by repeat (first | (with_reducible first | exact HB.out | apply below_alloc | apply pw_below_drewN | apply below_drew1 | refine below_set ?_ GE104.out) | exact HB.out)⟩⟩
                case rest =>
                  clear HC21
                  try clear c1
                  try clear c2
                  try clear c2b0
                  try clear c2b1
                  try clear p2
                  try clear p3
                  try clear q3
                  try clear hx3
                  try clear qi3
                  try clear p5
                  try clear q5
                  try clear hx5
                  try clear qi5
                  try clear c6
                  try clear c7
                  try clear c8
                  try clear c10
                  try clear c11
                  try clear c12
                  try clear c12b0
                  try clear c12b1
                  try clear c13
                  try clear c13b0
                  try clear c13b1
                  try clear c16
                  try clear c17
                  try clear c18
                  try clear c18b0
                  try clear c18b1
                  try clear c19
                  try clear c19b0
                  try clear c19b1
                  try clear c22
                  try clear hcz14_0
                  try clear hcz14_1
                  try clear hcz14_2
                  try clear hcz20_0
                  try clear hcz20_1
                  try clear hcz20_2
                  try clear hfz14_0
                  try clear hfz14_1
                  try clear hfz14_2
                  try clear hfz20_0
                  try clear hfz20_1
                  try clear hfz20_2
                  try clear p2
                  try clear p3
                  try clear p5
                  try clear q3
                  try clear q5
                  obtain ⟨kq, x40_20, rfl, HA, HJ20, BK104, HB⟩ := hcut
                  cases kq with
                  | zero => exact absurd HA.out (by simp [instarref08_one.j2])
                  | succ kj20 =>
                    have H := HA.out
                    clear HA
                    simp only [instarref08_one.j2] at H
                    by_cases c23 : x40_20 = true
                    · subst c23
                      have H1 : (some (0, (⟨#[]⟩ : ByteArray), 0, 0)) = some (r1, r2, r3, r4) := by rw [if_pos rfl] at H; exact H
                      clear H
                      have H := H1
                      clear H1
                      simp only [Option.some.injEq, Prod.mk.injEq] at H
                      obtain ⟨rfl, rfl, rfl, rfl⟩ := H
                      have hcz24_0 : wc.cell? ⟨gb104, 0, none⟩ = some (.int .i64 0) := (blk_cell BK104.out 0).trans rfl
                      have hcz24_1 : wc.cell? ⟨gb104, 1, none⟩ = some (.string (⟨#[]⟩ : ByteArray)) := (blk_cell BK104.out 1).trans rfl
                      have hcz24_2 : wc.cell? ⟨gb104, 2, none⟩ = some (.int .i64 0) := (blk_cell BK104.out 2).trans rfl
                      have hfz24_0 := blk_frozen BK104.out 0
                      have hfz24_1 := blk_frozen BK104.out 1
                      have hfz24_2 := blk_frozen BK104.out 2
                      go_wp2
                      refine bodyPost_ret (results_ct rfl _ _ gb104 76 #[.int .i64 0, .string (⟨#[]⟩ : ByteArray), .int .i64 0] (0, 0) _ rfl (by (with_reducible repeat (first | refine blk_drewN ?_ _ | refine blk_drew ?_ | refine blk_alloc ?_ _)); refine blk_put (cs := #[.int .i64 0, .string (⟨#[]⟩ : ByteArray), .int .i64 0]) ?_ 2 _ rfl; (with_reducible repeat (first | refine blk_drewN ?_ _ | refine blk_drew ?_ | refine blk_alloc ?_ _)); refine blk_put (cs := #[.int .i64 0, .string (⟨#[]⟩ : ByteArray), .int .i64 0]) ?_ 1 _ rfl; (with_reducible repeat (first | refine blk_drewN ?_ _ | refine blk_drew ?_ | refine blk_alloc ?_ _)); refine blk_put (cs := #[.int .i64 0, .string (⟨#[]⟩ : ByteArray), .int .i64 0]) ?_ 0 _ rfl; (with_reducible repeat (first | refine blk_drewN ?_ _ | refine blk_drew ?_ | refine blk_alloc ?_ _)); exact BK104.out) Tryd.underlying76 rfl (by kernel_rfl)) rfl ?_
                      exact ⟨by first | rfl | (simp [errW_none, errW_some] <;> rfl) | (simp [*, errW_none, errW_some] <;> rfl), by repeat (first | (with_reducible first | exact HB.out | apply below_alloc | apply pw_below_drewN | apply below_drew1 | refine below_set ?_ GE104.out) | exact HB.out)⟩
                    · replace c23 := Bool.eq_false_iff.mpr c23
                      subst c23
                      have H1 : (if 0 < (a0.size : Int) then (if (bt a0 0) = 39 then ((instarref08_quote.f kj20 a0).bind fun bt108 => (if (bt108.1.size : Int) > 200 then (some (0, (⟨#[]⟩ : ByteArray), 0, 0)) else (some (2, bt108.1, 0, bt108.2)))) else (if (a0.size : Int) > 1 then (if 0 ≤ 2 then (if 2 ≤ (a0.size : Int) then (if (a0.extract 0 2).toList = ([60, 61] : List UInt8) then (instarref08_one.j3 kj20 a0 true) else (if (a0.extract 0 2).toList = ([62, 61] : List UInt8) then (instarref08_one.j3 kj20 a0 true) else (instarref08_one.j3 kj20 a0 ((a0.extract 0 2).toList == ([60, 62] : List UInt8))))) else (none)) else (none)) else (instarref08_one.j3 kj20 a0 false))) else (none)) = some (r1, r2, r3, r4) := by rw [if_neg (show ¬ (false = true) by decide)] at H; exact H
                      clear H
                      have H := H1
                      clear H1
                      by_cases c25 : 0 < (a0.size : Int)
                      · rw [if_pos c25] at H
                        have c25b0 : decide (0 < (a0.size : Int)) = true := decide_eq_true c25
                        have c25b1 : decide (0 < a0.size) = true := decide_eq_true (by omega)
                        clear c25
                        by_cases c27 : (bt a0 0) = 39
                        · rw [if_pos c27] at H
                          have c27b0 : ((bt a0 0) == 39) = true := beq_iff_eq.mpr c27
                          have c27b1 : ((bt a0 0) != 39) = false := bne_eq_false_iff_eq.mpr c27
                          clear c27
                          replace H := Option.bind_eq_some_iff.mp H
                          obtain ⟨⟨t108, t109⟩, A280, H⟩ := H
                          replace H : (if (t108.size : Int) > 200 then (some (0, (⟨#[]⟩ : ByteArray), 0, 0)) else (some (2, t108, 0, t109))) = some (r1, r2, r3, r4) := H
                          have A28 := Aside0.mk A280
                          clear A280
                          by_cases c29 : (t108.size : Int) > 200
                          · rw [if_pos c29] at H
                            have c29b0 : decide (200 < (t108.size : Int)) = true := decide_eq_true c29
                            have c29b1 : decide (200 < t108.size) = true := decide_eq_true (by omega)
                            clear c29
                            simp only [Option.some.injEq, Prod.mk.injEq] at H
                            obtain ⟨rfl, rfl, rfl, rfl⟩ := H
                            have p26 : 0 ≤ (0 : Int) := (by omega)
                            have q26 : 0 < a0.size := (by have : (0 : Int) < (a0.size : Int) := of_decide_eq_true (by first | (with_reducible assumption) | assumption); omega)
                            have hx26 : ∀ h : 0 < a0.size, ((a0[0]'h).toNat : Int) = bt a0 0 := bt_at a0 0
                            clear p26
                            have qi26 : (0 < (a0.size : Int)) = True := eq_true (of_decide_eq_true (by first | (with_reducible assumption) | assumption))
                            replace q26 := eq_true q26
                            go_wp2_with (first | ((with_reducible refine gate_callee (f := 81) rfl ?_); refine goesL_ (some 52) rfl rfl Tryd.func81 (by kernel_rfl) rfl #[.string a0] rfl (by (try simp only [List.map_toArray, List.map_cons, List.map_nil]); first | done | rfl | (simp only [List.length_drop, List.length_take]; rfl)) ?_; (with_reducible refine (instarref08_quote.calls kj20 a0 t108 t109 _ A28.out).mono ?_); rintro e w' ⟨rfl, ⟨nd, rfl⟩⟩; refine ⟨_, rfl, ?_⟩; (try (rw [drewN_self wc]; generalize hq_ : World.drewN wc _ = wc; have n0_ : Aside0 (wc.heap[gb104]? = some (.cells #[.int .i64 0, .string (⟨#[]⟩ : ByteArray), .int .i64 0] 76 (0, 0))) := ⟨by rw [← hq_]; exact (by (with_reducible repeat (first | refine blk_drewN ?_ _ | refine blk_drew ?_ | refine blk_alloc ?_ _)); exact BK104.out)⟩; have n1_ : Aside0 (Below w.heap.size w wc) := ⟨by rw [← hq_]; exact (by repeat (first | (with_reducible first | exact HB.out | apply below_alloc | apply pw_below_drewN | apply below_drew1 | refine below_set ?_ GE104.out) | exact HB.out))⟩; clear BK104 HB hq_; have BK104 := n0_; have HB := n1_; clear n0_ n1_)); have hcz30_0 : wc.cell? ⟨gb104, 0, none⟩ = some (.int .i64 0) := (blk_cell BK104.out 0).trans rfl; have hcz30_1 : wc.cell? ⟨gb104, 1, none⟩ = some (.string (⟨#[]⟩ : ByteArray)) := (blk_cell BK104.out 1).trans rfl; have hcz30_2 : wc.cell? ⟨gb104, 2, none⟩ = some (.int .i64 0) := (blk_cell BK104.out 2).trans rfl; have hfz30_0 := blk_frozen BK104.out 0; have hfz30_1 := blk_frozen BK104.out 1; have hfz30_2 := blk_frozen BK104.out 2))
                            refine bodyPost_ret (results_ct rfl _ _ gb104 76 #[.int .i64 0, .string (⟨#[]⟩ : ByteArray), .int .i64 0] (0, 0) _ rfl (by (with_reducible repeat (first | refine blk_drewN ?_ _ | refine blk_drew ?_ | refine blk_alloc ?_ _)); refine blk_put (cs := #[.int .i64 0, .string (⟨#[]⟩ : ByteArray), .int .i64 0]) ?_ 2 _ rfl; (with_reducible repeat (first | refine blk_drewN ?_ _ | refine blk_drew ?_ | refine blk_alloc ?_ _)); refine blk_put (cs := #[.int .i64 0, .string (⟨#[]⟩ : ByteArray), .int .i64 0]) ?_ 1 _ rfl; (with_reducible repeat (first | refine blk_drewN ?_ _ | refine blk_drew ?_ | refine blk_alloc ?_ _)); refine blk_put (cs := #[.int .i64 0, .string (⟨#[]⟩ : ByteArray), .int .i64 0]) ?_ 0 _ rfl; (with_reducible repeat (first | refine blk_drewN ?_ _ | refine blk_drew ?_ | refine blk_alloc ?_ _)); exact BK104.out) Tryd.underlying76 rfl (by kernel_rfl)) rfl ?_
                            exact ⟨by first | rfl | (simp [errW_none, errW_some] <;> rfl) | (simp [*, errW_none, errW_some] <;> rfl), by repeat (first | (with_reducible first | exact HB.out | apply below_alloc | apply pw_below_drewN | apply below_drew1 | refine below_set ?_ GE104.out) | exact HB.out)⟩
                          · rw [if_neg c29] at H
                            have c29b0 : decide (200 < (t108.size : Int)) = false := decide_eq_false c29
                            have c29b1 : decide (200 < t108.size) = false := decide_eq_false (by omega)
                            clear c29
                            simp only [Option.some.injEq, Prod.mk.injEq] at H
                            obtain ⟨rfl, rfl, rfl, rfl⟩ := H
                            have p26 : 0 ≤ (0 : Int) := (by omega)
                            have q26 : 0 < a0.size := (by have : (0 : Int) < (a0.size : Int) := of_decide_eq_true (by first | (with_reducible assumption) | assumption); omega)
                            have hx26 : ∀ h : 0 < a0.size, ((a0[0]'h).toNat : Int) = bt a0 0 := bt_at a0 0
                            clear p26
                            have qi26 : (0 < (a0.size : Int)) = True := eq_true (of_decide_eq_true (by first | (with_reducible assumption) | assumption))
                            replace q26 := eq_true q26
                            go_wp2_with (first | ((with_reducible refine gate_callee (f := 81) rfl ?_); refine goesL_ (some 52) rfl rfl Tryd.func81 (by kernel_rfl) rfl #[.string a0] rfl (by (try simp only [List.map_toArray, List.map_cons, List.map_nil]); first | done | rfl | (simp only [List.length_drop, List.length_take]; rfl)) ?_; (with_reducible refine (instarref08_quote.calls kj20 a0 t108 t109 _ A28.out).mono ?_); rintro e w' ⟨rfl, ⟨nd, rfl⟩⟩; refine ⟨_, rfl, ?_⟩; (try (rw [drewN_self wc]; generalize hq_ : World.drewN wc _ = wc; have n0_ : Aside0 (wc.heap[gb104]? = some (.cells #[.int .i64 0, .string (⟨#[]⟩ : ByteArray), .int .i64 0] 76 (0, 0))) := ⟨by rw [← hq_]; exact (by (with_reducible repeat (first | refine blk_drewN ?_ _ | refine blk_drew ?_ | refine blk_alloc ?_ _)); exact BK104.out)⟩; have n1_ : Aside0 (Below w.heap.size w wc) := ⟨by rw [← hq_]; exact (by repeat (first | (with_reducible first | exact HB.out | apply below_alloc | apply pw_below_drewN | apply below_drew1 | refine below_set ?_ GE104.out) | exact HB.out))⟩; clear BK104 HB hq_; have BK104 := n0_; have HB := n1_; clear n0_ n1_)); have hcz31_0 : wc.cell? ⟨gb104, 0, none⟩ = some (.int .i64 0) := (blk_cell BK104.out 0).trans rfl; have hcz31_1 : wc.cell? ⟨gb104, 1, none⟩ = some (.string (⟨#[]⟩ : ByteArray)) := (blk_cell BK104.out 1).trans rfl; have hcz31_2 : wc.cell? ⟨gb104, 2, none⟩ = some (.int .i64 0) := (blk_cell BK104.out 2).trans rfl; have hfz31_0 := blk_frozen BK104.out 0; have hfz31_1 := blk_frozen BK104.out 1; have hfz31_2 := blk_frozen BK104.out 2))
                            refine bodyPost_ret (results_ct rfl _ _ gb104 76 #[.int .i64 2, .string t108, .int .i64 0] (0, 0) _ rfl (by (with_reducible repeat (first | refine blk_drewN ?_ _ | refine blk_drew ?_ | refine blk_alloc ?_ _)); refine blk_put (cs := #[.int .i64 2, .string t108, .int .i64 0]) ?_ 2 _ rfl; (with_reducible repeat (first | refine blk_drewN ?_ _ | refine blk_drew ?_ | refine blk_alloc ?_ _)); refine blk_put (cs := #[.int .i64 2, .string (⟨#[]⟩ : ByteArray), .int .i64 0]) ?_ 1 _ rfl; (with_reducible repeat (first | refine blk_drewN ?_ _ | refine blk_drew ?_ | refine blk_alloc ?_ _)); refine blk_put (cs := #[.int .i64 0, .string (⟨#[]⟩ : ByteArray), .int .i64 0]) ?_ 0 _ rfl; (with_reducible repeat (first | refine blk_drewN ?_ _ | refine blk_drew ?_ | refine blk_alloc ?_ _)); exact BK104.out) Tryd.underlying76 rfl (by kernel_rfl)) rfl ?_
                            exact ⟨by first | rfl | (simp [errW_none, errW_some] <;> rfl) | (simp [*, errW_none, errW_some] <;> rfl), by repeat (first | (with_reducible first | exact HB.out | apply below_alloc | apply pw_below_drewN | apply below_drew1 | refine below_set ?_ GE104.out) | exact HB.out)⟩
                        · rw [if_neg c27] at H
                          have c27b0 : ((bt a0 0) == 39) = false := beq_eq_false_iff_ne.mpr c27
                          have c27b1 : ((bt a0 0) != 39) = true := bne_iff_ne.mpr c27
                          have HC32 := Aside0.mk H
                          clear H
                          have p26 : 0 ≤ (0 : Int) := (by omega)
                          have q26 : 0 < a0.size := (by have : (0 : Int) < (a0.size : Int) := of_decide_eq_true (by first | (with_reducible assumption) | assumption); omega)
                          have hx26 : ∀ h : 0 < a0.size, ((a0[0]'h).toNat : Int) = bt a0 0 := bt_at a0 0
                          clear p26
                          have qi26 : (0 < (a0.size : Int)) = True := eq_true (of_decide_eq_true (by first | (with_reducible assumption) | assumption))
                          replace q26 := eq_true q26
                          go_upto_region 15 with (fail)
                          go_cut [79] (fun v79 wc => ∃ (kq : Nat) (x79_31 : Bool), v79 = .bool x79_31 ∧ Aside0 (instarref08_one.j3 kq a0 x79_31 = some (r1, r2, r3, r4)) ∧ Aside0 (kq ≤ kj20) ∧ Aside0 (wc.heap[gb104]? = some (.cells #[.int .i64 0, .string (⟨#[]⟩ : ByteArray), .int .i64 0] 76 (0, 0))) ∧ Aside0 (Below w.heap.size w wc))
                          case first =>
                            have H := HC32.out
                            clear HC32
                            by_cases c33 : (a0.size : Int) > 1
                            · rw [if_pos c33] at H
                              have c33b0 : decide (1 < (a0.size : Int)) = true := decide_eq_true c33
                              have c33b1 : decide (1 < a0.size) = true := decide_eq_true (by omega)
                              clear c33
                              (first | rw [c33b0] | (simp only [i64_w, i32_w]; rw [c33b0]) | skip)
                              by_cases c34 : 0 ≤ 2
                              · rw [if_pos c34] at H
                                have c34b0 := eq_true c34
                                have c34b1 : decide (0 ≤ 2) = true := decide_eq_true c34
                                clear c34
                                by_cases c35 : 2 ≤ (a0.size : Int)
                                · rw [if_pos c35] at H
                                  have c35b0 := eq_true c35
                                  have c35b1 : decide (2 ≤ (a0.size : Int)) = true := decide_eq_true c35
                                  clear c35
                                  by_cases c36 : (a0.extract 0 2).toList = ([60, 61] : List UInt8)
                                  · rw [if_pos c36] at H
                                    have c36b0 : ((a0.extract 0 2).toList == ([60, 61] : List UInt8)) = true := beq_iff_eq.mpr c36
                                    have c36b1 : ((a0.extract 0 2).toList != ([60, 61] : List UInt8)) = false := bne_eq_false_iff_eq.mpr c36
                                    clear c36
                                    have H' := Aside0.mk H
                                    clear H
                                    go_wp2
                                    go_meet
                                    case rel => exact ⟨_, (true), (by first | rfl | (simp; done) | (simp [*]; done)), H', ⟨by have := HJ7.out; have := HJ14.out; have := HJ20.out; first | omega | exact Nat.le_refl _⟩, ⟨by (with_reducible repeat (first | refine blk_drewN ?_ _ | refine blk_drew ?_ | refine blk_alloc ?_ _)); exact BK104.out⟩, ⟨by repeat (first | (with_reducible first | exact HB.out | apply below_alloc | apply pw_below_drewN | apply below_drew1 | refine below_set ?_ GE104.out) | exact HB.out)⟩⟩
                                  · rw [if_neg c36] at H
                                    have c36b0 : ((a0.extract 0 2).toList == ([60, 61] : List UInt8)) = false := beq_eq_false_iff_ne.mpr c36
                                    have c36b1 : ((a0.extract 0 2).toList != ([60, 61] : List UInt8)) = true := bne_iff_ne.mpr c36
                                    have c37b0 := eq_true (of_decide_eq_true (by first | (with_reducible assumption) | assumption) : 0 ≤ 2)
                                    have c38b0 := eq_true (of_decide_eq_true (by first | (with_reducible assumption) | assumption) : 2 ≤ (a0.size : Int))
                                    by_cases c39 : (a0.extract 0 2).toList = ([62, 61] : List UInt8)
                                    · rw [if_pos c39] at H
                                      have c39b0 : ((a0.extract 0 2).toList == ([62, 61] : List UInt8)) = true := beq_iff_eq.mpr c39
                                      have c39b1 : ((a0.extract 0 2).toList != ([62, 61] : List UInt8)) = false := bne_eq_false_iff_eq.mpr c39
                                      clear c39
                                      have H' := Aside0.mk H
                                      clear H
                                      go_wp2
                                      go_meet
                                      case rel => exact ⟨_, (true), (by first | rfl | (simp; done) | (simp [*]; done)), H', ⟨by have := HJ7.out; have := HJ14.out; have := HJ20.out; first | omega | exact Nat.le_refl _⟩, ⟨by (with_reducible repeat (first | refine blk_drewN ?_ _ | refine blk_drew ?_ | refine blk_alloc ?_ _)); exact BK104.out⟩, ⟨by repeat (first | (with_reducible first | exact HB.out | apply below_alloc | apply pw_below_drewN | apply below_drew1 | refine below_set ?_ GE104.out) | exact HB.out)⟩⟩
                                    · rw [if_neg c39] at H
                                      have c39b0 : ((a0.extract 0 2).toList == ([62, 61] : List UInt8)) = false := beq_eq_false_iff_ne.mpr c39
                                      have c39b1 : ((a0.extract 0 2).toList != ([62, 61] : List UInt8)) = true := bne_iff_ne.mpr c39
                                      have c40b0 := eq_true (of_decide_eq_true (by first | (with_reducible assumption) | assumption) : 0 ≤ 2)
                                      have c41b0 := eq_true (of_decide_eq_true (by first | (with_reducible assumption) | assumption) : 2 ≤ (a0.size : Int))
                                      have H' := Aside0.mk H
                                      clear H
                                      go_wp2
                                      go_meet
                                      case rel => exact ⟨_, (((a0.extract 0 2).toList == ([60, 62] : List UInt8))), (by first | rfl | (simp; done) | (simp [*]; done)), H', ⟨by have := HJ7.out; have := HJ14.out; have := HJ20.out; first | omega | exact Nat.le_refl _⟩, ⟨by (with_reducible repeat (first | refine blk_drewN ?_ _ | refine blk_drew ?_ | refine blk_alloc ?_ _)); exact BK104.out⟩, ⟨by repeat (first | (with_reducible first | exact HB.out | apply below_alloc | apply pw_below_drewN | apply below_drew1 | refine below_set ?_ GE104.out) | exact HB.out)⟩⟩
                                · rw [if_neg c35] at H
                                  exact absurd H (by simp)
                              · rw [if_neg c34] at H
                                exact absurd H (by simp)
                            · rw [if_neg c33] at H
                              have c33b0 : decide (1 < (a0.size : Int)) = false := decide_eq_false c33
                              have c33b1 : decide (1 < a0.size) = false := decide_eq_false (by omega)
                              clear c33
                              (first | rw [c33b0] | (simp only [i64_w, i32_w]; rw [c33b0]) | skip)
                              have H' := Aside0.mk H
                              clear H
                              go_wp2
                              go_meet
                              case rel => exact ⟨_, (false), (by first | rfl | (simp; done) | (simp [*]; done)), H', ⟨by have := HJ7.out; have := HJ14.out; have := HJ20.out; first | omega | exact Nat.le_refl _⟩, ⟨by (with_reducible repeat (first | refine blk_drewN ?_ _ | refine blk_drew ?_ | refine blk_alloc ?_ _)); exact BK104.out⟩, ⟨by repeat (first | (with_reducible first | exact HB.out | apply below_alloc | apply pw_below_drewN | apply below_drew1 | refine below_set ?_ GE104.out) | exact HB.out)⟩⟩
                          case rest =>
                            clear HC32
                            try clear c1
                            try clear c2
                            try clear c2b0
                            try clear c2b1
                            try clear p2
                            try clear q2
                            try clear hx2
                            try clear qi2
                            try clear c3
                            try clear p3
                            try clear q3
                            try clear hx3
                            try clear qi3
                            try clear c4
                            try clear p5
                            try clear q5
                            try clear hx5
                            try clear qi5
                            try clear c6
                            try clear c7
                            try clear c8
                            try clear c10
                            try clear c11
                            try clear c12
                            try clear c12b0
                            try clear c12b1
                            try clear c13
                            try clear c13b0
                            try clear c13b1
                            try clear c16
                            try clear c17
                            try clear c18
                            try clear c18b0
                            try clear c18b1
                            try clear c19
                            try clear c19b0
                            try clear c19b1
                            try clear c22
                            try clear c23
                            try clear c25
                            try clear c25b0
                            try clear c25b1
                            try clear p26
                            try clear q26
                            try clear hx26
                            try clear qi26
                            try clear c27
                            try clear c27b0
                            try clear c27b1
                            try clear c29
                            try clear c29b0
                            try clear c29b1
                            try clear c33
                            try clear c33b0
                            try clear c33b1
                            try clear c34
                            try clear c34b0
                            try clear c34b1
                            try clear c35
                            try clear c35b0
                            try clear c35b1
                            try clear c36
                            try clear c36b0
                            try clear c36b1
                            try clear c37
                            try clear c37b0
                            try clear c38
                            try clear c38b0
                            try clear c39
                            try clear c39b0
                            try clear c39b1
                            try clear c40
                            try clear c40b0
                            try clear c41
                            try clear c41b0
                            try clear hcz14_0
                            try clear hcz14_1
                            try clear hcz14_2
                            try clear hcz20_0
                            try clear hcz20_1
                            try clear hcz20_2
                            try clear hcz24_0
                            try clear hcz24_1
                            try clear hcz24_2
                            try clear hcz30_0
                            try clear hcz30_1
                            try clear hcz30_2
                            try clear hcz31_0
                            try clear hcz31_1
                            try clear hcz31_2
                            try clear hfz14_0
                            try clear hfz14_1
                            try clear hfz14_2
                            try clear hfz20_0
                            try clear hfz20_1
                            try clear hfz20_2
                            try clear hfz24_0
                            try clear hfz24_1
                            try clear hfz24_2
                            try clear hfz30_0
                            try clear hfz30_1
                            try clear hfz30_2
                            try clear hfz31_0
                            try clear hfz31_1
                            try clear hfz31_2
                            try clear p2
                            try clear p26
                            try clear p3
                            try clear p5
                            try clear q26
                            try clear q3
                            try clear q5
                            obtain ⟨kq, x79_31, rfl, HA, HJ31, BK104, HB⟩ := hcut
                            cases kq with
                            | zero => exact absurd HA.out (by simp [instarref08_one.j3])
                            | succ kj31 =>
                              have H := HA.out
                              clear HA
                              simp only [instarref08_one.j3] at H
                              by_cases c42 : x79_31 = true
                              · subst c42
                                have H1 : (if 0 ≤ 2 then (if 2 ≤ (a0.size : Int) then (some (3, a0.extract 0 2, 0, 2)) else (none)) else (none)) = some (r1, r2, r3, r4) := by rw [if_pos rfl] at H; exact H
                                clear H
                                have H := H1
                                clear H1
                                by_cases c43 : 0 ≤ 2
                                · rw [if_pos c43] at H
                                  have c43b0 := eq_true c43
                                  have c43b1 : decide (0 ≤ 2) = true := decide_eq_true c43
                                  clear c43
                                  by_cases c44 : 2 ≤ (a0.size : Int)
                                  · rw [if_pos c44] at H
                                    have c44b0 := eq_true c44
                                    have c44b1 : decide (2 ≤ (a0.size : Int)) = true := decide_eq_true c44
                                    clear c44
                                    simp only [Option.some.injEq, Prod.mk.injEq] at H
                                    obtain ⟨rfl, rfl, rfl, rfl⟩ := H
                                    have hcz45_0 : wc.cell? ⟨gb104, 0, none⟩ = some (.int .i64 0) := (blk_cell BK104.out 0).trans rfl
                                    have hcz45_1 : wc.cell? ⟨gb104, 1, none⟩ = some (.string (⟨#[]⟩ : ByteArray)) := (blk_cell BK104.out 1).trans rfl
                                    have hcz45_2 : wc.cell? ⟨gb104, 2, none⟩ = some (.int .i64 0) := (blk_cell BK104.out 2).trans rfl
                                    have hfz45_0 := blk_frozen BK104.out 0
                                    have hfz45_1 := blk_frozen BK104.out 1
                                    have hfz45_2 := blk_frozen BK104.out 2
                                    go_wp2
                                    refine bodyPost_ret (results_ct rfl _ _ gb104 76 #[.int .i64 3, .string (a0.extract 0 2), .int .i64 0] (0, 0) _ rfl (by (with_reducible repeat (first | refine blk_drewN ?_ _ | refine blk_drew ?_ | refine blk_alloc ?_ _)); refine blk_put (cs := #[.int .i64 3, .string (a0.extract 0 2), .int .i64 0]) ?_ 2 _ rfl; (with_reducible repeat (first | refine blk_drewN ?_ _ | refine blk_drew ?_ | refine blk_alloc ?_ _)); refine blk_put (cs := #[.int .i64 3, .string (⟨#[]⟩ : ByteArray), .int .i64 0]) ?_ 1 _ rfl; (with_reducible repeat (first | refine blk_drewN ?_ _ | refine blk_drew ?_ | refine blk_alloc ?_ _)); refine blk_put (cs := #[.int .i64 0, .string (⟨#[]⟩ : ByteArray), .int .i64 0]) ?_ 0 _ rfl; (with_reducible repeat (first | refine blk_drewN ?_ _ | refine blk_drew ?_ | refine blk_alloc ?_ _)); exact BK104.out) Tryd.underlying76 rfl (by kernel_rfl)) rfl ?_
                                    exact ⟨by first | rfl | (simp [errW_none, errW_some] <;> rfl) | (simp [*, errW_none, errW_some] <;> rfl), by repeat (first | (with_reducible first | exact HB.out | apply below_alloc | apply pw_below_drewN | apply below_drew1 | refine below_set ?_ GE104.out) | exact HB.out)⟩
                                  · rw [if_neg c44] at H
                                    exact absurd H (by simp)
                                · rw [if_neg c43] at H
                                  exact absurd H (by simp)
                              · replace c42 := Bool.eq_false_iff.mpr c42
                                subst c42
                                have H1 : (if 0 < (a0.size : Int) then (if (bt a0 0) = 40 then (if 0 ≤ 1 then (if 1 ≤ (a0.size : Int) then (some (3, a0.extract 0 1, 0, 1)) else (none)) else (none)) else (if (bt a0 0) = 41 then (if 0 ≤ 1 then (if 1 ≤ (a0.size : Int) then (some (3, a0.extract 0 1, 0, 1)) else (none)) else (none)) else (if (bt a0 0) = 44 then (if 0 ≤ 1 then (if 1 ≤ (a0.size : Int) then (some (3, a0.extract 0 1, 0, 1)) else (none)) else (none)) else (if (bt a0 0) = 61 then (if 0 ≤ 1 then (if 1 ≤ (a0.size : Int) then (some (3, a0.extract 0 1, 0, 1)) else (none)) else (none)) else (if (bt a0 0) = 60 then (if 0 ≤ 1 then (if 1 ≤ (a0.size : Int) then (some (3, a0.extract 0 1, 0, 1)) else (none)) else (none)) else (if (bt a0 0) = 62 then (if 0 ≤ 1 then (if 1 ≤ (a0.size : Int) then (some (3, a0.extract 0 1, 0, 1)) else (none)) else (none)) else (if (bt a0 0) = 43 then (if 0 ≤ 1 then (if 1 ≤ (a0.size : Int) then (some (3, a0.extract 0 1, 0, 1)) else (none)) else (none)) else (if (bt a0 0) = 45 then (if 0 ≤ 1 then (if 1 ≤ (a0.size : Int) then (some (3, a0.extract 0 1, 0, 1)) else (none)) else (none)) else (if (bt a0 0) = 42 then (if 0 ≤ 1 then (if 1 ≤ (a0.size : Int) then (some (3, a0.extract 0 1, 0, 1)) else (none)) else (none)) else (some (0, (⟨#[]⟩ : ByteArray), 0, 0))))))))))) else (none)) = some (r1, r2, r3, r4) := by rw [if_neg (show ¬ (false = true) by decide)] at H; exact H
                                clear H
                                have H := H1
                                clear H1
                                by_cases c46 : 0 < (a0.size : Int)
                                · rw [if_pos c46] at H
                                  have c46b0 : decide (0 < (a0.size : Int)) = true := decide_eq_true c46
                                  have c46b1 : decide (0 < a0.size) = true := decide_eq_true (by omega)
                                  clear c46
                                  by_cases c48 : (bt a0 0) = 40
                                  · rw [if_pos c48] at H
                                    have c48b0 : ((bt a0 0) == 40) = true := beq_iff_eq.mpr c48
                                    have c48b1 : ((bt a0 0) != 40) = false := bne_eq_false_iff_eq.mpr c48
                                    clear c48
                                    by_cases c49 : 0 ≤ 1
                                    · rw [if_pos c49] at H
                                      have c49b0 := eq_true c49
                                      have c49b1 : decide (0 ≤ 1) = true := decide_eq_true c49
                                      clear c49
                                      by_cases c50 : 1 ≤ (a0.size : Int)
                                      · rw [if_pos c50] at H
                                        have c50b0 := eq_true c50
                                        have c50b1 : decide (1 ≤ (a0.size : Int)) = true := decide_eq_true c50
                                        clear c50
                                        simp only [Option.some.injEq, Prod.mk.injEq] at H
                                        obtain ⟨rfl, rfl, rfl, rfl⟩ := H
                                        have p47 : 0 ≤ (0 : Int) := (by omega)
                                        have q47 : 0 < a0.size := (by have : (0 : Int) < (a0.size : Int) := of_decide_eq_true (by first | (with_reducible assumption) | assumption); omega)
                                        have hx47 : ∀ h : 0 < a0.size, ((a0[0]'h).toNat : Int) = bt a0 0 := bt_at a0 0
                                        clear p47
                                        have qi47 : (0 < (a0.size : Int)) = True := eq_true (of_decide_eq_true (by first | (with_reducible assumption) | assumption))
                                        replace q47 := eq_true q47
                                        have hcz51_0 : wc.cell? ⟨gb104, 0, none⟩ = some (.int .i64 0) := (blk_cell BK104.out 0).trans rfl
                                        have hcz51_1 : wc.cell? ⟨gb104, 1, none⟩ = some (.string (⟨#[]⟩ : ByteArray)) := (blk_cell BK104.out 1).trans rfl
                                        have hcz51_2 : wc.cell? ⟨gb104, 2, none⟩ = some (.int .i64 0) := (blk_cell BK104.out 2).trans rfl
                                        have hfz51_0 := blk_frozen BK104.out 0
                                        have hfz51_1 := blk_frozen BK104.out 1
                                        have hfz51_2 := blk_frozen BK104.out 2
                                        go_wp2
                                        refine bodyPost_ret (results_ct rfl _ _ gb104 76 #[.int .i64 3, .string (a0.extract 0 1), .int .i64 0] (0, 0) _ rfl (by (with_reducible repeat (first | refine blk_drewN ?_ _ | refine blk_drew ?_ | refine blk_alloc ?_ _)); refine blk_put (cs := #[.int .i64 3, .string (a0.extract 0 1), .int .i64 0]) ?_ 2 _ rfl; (with_reducible repeat (first | refine blk_drewN ?_ _ | refine blk_drew ?_ | refine blk_alloc ?_ _)); refine blk_put (cs := #[.int .i64 3, .string (⟨#[]⟩ : ByteArray), .int .i64 0]) ?_ 1 _ rfl; (with_reducible repeat (first | refine blk_drewN ?_ _ | refine blk_drew ?_ | refine blk_alloc ?_ _)); refine blk_put (cs := #[.int .i64 0, .string (⟨#[]⟩ : ByteArray), .int .i64 0]) ?_ 0 _ rfl; (with_reducible repeat (first | refine blk_drewN ?_ _ | refine blk_drew ?_ | refine blk_alloc ?_ _)); exact BK104.out) Tryd.underlying76 rfl (by kernel_rfl)) rfl ?_
                                        exact ⟨by first | rfl | (simp [errW_none, errW_some] <;> rfl) | (simp [*, errW_none, errW_some] <;> rfl), by repeat (first | (with_reducible first | exact HB.out | apply below_alloc | apply pw_below_drewN | apply below_drew1 | refine below_set ?_ GE104.out) | exact HB.out)⟩
                                      · rw [if_neg c50] at H
                                        exact absurd H (by simp)
                                    · rw [if_neg c49] at H
                                      exact absurd H (by simp)
                                  · rw [if_neg c48] at H
                                    have c48b0 : ((bt a0 0) == 40) = false := beq_eq_false_iff_ne.mpr c48
                                    have c48b1 : ((bt a0 0) != 40) = true := bne_iff_ne.mpr c48
                                    by_cases c52 : (bt a0 0) = 41
                                    · rw [if_pos c52] at H
                                      have c52b0 : ((bt a0 0) == 41) = true := beq_iff_eq.mpr c52
                                      have c52b1 : ((bt a0 0) != 41) = false := bne_eq_false_iff_eq.mpr c52
                                      clear c52
                                      by_cases c53 : 0 ≤ 1
                                      · rw [if_pos c53] at H
                                        have c53b0 := eq_true c53
                                        have c53b1 : decide (0 ≤ 1) = true := decide_eq_true c53
                                        clear c53
                                        by_cases c54 : 1 ≤ (a0.size : Int)
                                        · rw [if_pos c54] at H
                                          have c54b0 := eq_true c54
                                          have c54b1 : decide (1 ≤ (a0.size : Int)) = true := decide_eq_true c54
                                          clear c54
                                          simp only [Option.some.injEq, Prod.mk.injEq] at H
                                          obtain ⟨rfl, rfl, rfl, rfl⟩ := H
                                          have p47 : 0 ≤ (0 : Int) := (by omega)
                                          have q47 : 0 < a0.size := (by have : (0 : Int) < (a0.size : Int) := of_decide_eq_true (by first | (with_reducible assumption) | assumption); omega)
                                          have hx47 : ∀ h : 0 < a0.size, ((a0[0]'h).toNat : Int) = bt a0 0 := bt_at a0 0
                                          clear p47
                                          have qi47 : (0 < (a0.size : Int)) = True := eq_true (of_decide_eq_true (by first | (with_reducible assumption) | assumption))
                                          replace q47 := eq_true q47
                                          have hcz55_0 : wc.cell? ⟨gb104, 0, none⟩ = some (.int .i64 0) := (blk_cell BK104.out 0).trans rfl
                                          have hcz55_1 : wc.cell? ⟨gb104, 1, none⟩ = some (.string (⟨#[]⟩ : ByteArray)) := (blk_cell BK104.out 1).trans rfl
                                          have hcz55_2 : wc.cell? ⟨gb104, 2, none⟩ = some (.int .i64 0) := (blk_cell BK104.out 2).trans rfl
                                          have hfz55_0 := blk_frozen BK104.out 0
                                          have hfz55_1 := blk_frozen BK104.out 1
                                          have hfz55_2 := blk_frozen BK104.out 2
                                          go_wp2
                                          refine bodyPost_ret (results_ct rfl _ _ gb104 76 #[.int .i64 3, .string (a0.extract 0 1), .int .i64 0] (0, 0) _ rfl (by (with_reducible repeat (first | refine blk_drewN ?_ _ | refine blk_drew ?_ | refine blk_alloc ?_ _)); refine blk_put (cs := #[.int .i64 3, .string (a0.extract 0 1), .int .i64 0]) ?_ 2 _ rfl; (with_reducible repeat (first | refine blk_drewN ?_ _ | refine blk_drew ?_ | refine blk_alloc ?_ _)); refine blk_put (cs := #[.int .i64 3, .string (⟨#[]⟩ : ByteArray), .int .i64 0]) ?_ 1 _ rfl; (with_reducible repeat (first | refine blk_drewN ?_ _ | refine blk_drew ?_ | refine blk_alloc ?_ _)); refine blk_put (cs := #[.int .i64 0, .string (⟨#[]⟩ : ByteArray), .int .i64 0]) ?_ 0 _ rfl; (with_reducible repeat (first | refine blk_drewN ?_ _ | refine blk_drew ?_ | refine blk_alloc ?_ _)); exact BK104.out) Tryd.underlying76 rfl (by kernel_rfl)) rfl ?_
                                          exact ⟨by first | rfl | (simp [errW_none, errW_some] <;> rfl) | (simp [*, errW_none, errW_some] <;> rfl), by repeat (first | (with_reducible first | exact HB.out | apply below_alloc | apply pw_below_drewN | apply below_drew1 | refine below_set ?_ GE104.out) | exact HB.out)⟩
                                        · rw [if_neg c54] at H
                                          exact absurd H (by simp)
                                      · rw [if_neg c53] at H
                                        exact absurd H (by simp)
                                    · rw [if_neg c52] at H
                                      have c52b0 : ((bt a0 0) == 41) = false := beq_eq_false_iff_ne.mpr c52
                                      have c52b1 : ((bt a0 0) != 41) = true := bne_iff_ne.mpr c52
                                      by_cases c56 : (bt a0 0) = 44
                                      · rw [if_pos c56] at H
                                        have c56b0 : ((bt a0 0) == 44) = true := beq_iff_eq.mpr c56
                                        have c56b1 : ((bt a0 0) != 44) = false := bne_eq_false_iff_eq.mpr c56
                                        clear c56
                                        by_cases c57 : 0 ≤ 1
                                        · rw [if_pos c57] at H
                                          have c57b0 := eq_true c57
                                          have c57b1 : decide (0 ≤ 1) = true := decide_eq_true c57
                                          clear c57
                                          by_cases c58 : 1 ≤ (a0.size : Int)
                                          · rw [if_pos c58] at H
                                            have c58b0 := eq_true c58
                                            have c58b1 : decide (1 ≤ (a0.size : Int)) = true := decide_eq_true c58
                                            clear c58
                                            simp only [Option.some.injEq, Prod.mk.injEq] at H
                                            obtain ⟨rfl, rfl, rfl, rfl⟩ := H
                                            have p47 : 0 ≤ (0 : Int) := (by omega)
                                            have q47 : 0 < a0.size := (by have : (0 : Int) < (a0.size : Int) := of_decide_eq_true (by first | (with_reducible assumption) | assumption); omega)
                                            have hx47 : ∀ h : 0 < a0.size, ((a0[0]'h).toNat : Int) = bt a0 0 := bt_at a0 0
                                            clear p47
                                            have qi47 : (0 < (a0.size : Int)) = True := eq_true (of_decide_eq_true (by first | (with_reducible assumption) | assumption))
                                            replace q47 := eq_true q47
                                            have hcz59_0 : wc.cell? ⟨gb104, 0, none⟩ = some (.int .i64 0) := (blk_cell BK104.out 0).trans rfl
                                            have hcz59_1 : wc.cell? ⟨gb104, 1, none⟩ = some (.string (⟨#[]⟩ : ByteArray)) := (blk_cell BK104.out 1).trans rfl
                                            have hcz59_2 : wc.cell? ⟨gb104, 2, none⟩ = some (.int .i64 0) := (blk_cell BK104.out 2).trans rfl
                                            have hfz59_0 := blk_frozen BK104.out 0
                                            have hfz59_1 := blk_frozen BK104.out 1
                                            have hfz59_2 := blk_frozen BK104.out 2
                                            go_wp2
                                            refine bodyPost_ret (results_ct rfl _ _ gb104 76 #[.int .i64 3, .string (a0.extract 0 1), .int .i64 0] (0, 0) _ rfl (by (with_reducible repeat (first | refine blk_drewN ?_ _ | refine blk_drew ?_ | refine blk_alloc ?_ _)); refine blk_put (cs := #[.int .i64 3, .string (a0.extract 0 1), .int .i64 0]) ?_ 2 _ rfl; (with_reducible repeat (first | refine blk_drewN ?_ _ | refine blk_drew ?_ | refine blk_alloc ?_ _)); refine blk_put (cs := #[.int .i64 3, .string (⟨#[]⟩ : ByteArray), .int .i64 0]) ?_ 1 _ rfl; (with_reducible repeat (first | refine blk_drewN ?_ _ | refine blk_drew ?_ | refine blk_alloc ?_ _)); refine blk_put (cs := #[.int .i64 0, .string (⟨#[]⟩ : ByteArray), .int .i64 0]) ?_ 0 _ rfl; (with_reducible repeat (first | refine blk_drewN ?_ _ | refine blk_drew ?_ | refine blk_alloc ?_ _)); exact BK104.out) Tryd.underlying76 rfl (by kernel_rfl)) rfl ?_
                                            exact ⟨by first | rfl | (simp [errW_none, errW_some] <;> rfl) | (simp [*, errW_none, errW_some] <;> rfl), by repeat (first | (with_reducible first | exact HB.out | apply below_alloc | apply pw_below_drewN | apply below_drew1 | refine below_set ?_ GE104.out) | exact HB.out)⟩
                                          · rw [if_neg c58] at H
                                            exact absurd H (by simp)
                                        · rw [if_neg c57] at H
                                          exact absurd H (by simp)
                                      · rw [if_neg c56] at H
                                        have c56b0 : ((bt a0 0) == 44) = false := beq_eq_false_iff_ne.mpr c56
                                        have c56b1 : ((bt a0 0) != 44) = true := bne_iff_ne.mpr c56
                                        by_cases c60 : (bt a0 0) = 61
                                        · rw [if_pos c60] at H
                                          have c60b0 : ((bt a0 0) == 61) = true := beq_iff_eq.mpr c60
                                          have c60b1 : ((bt a0 0) != 61) = false := bne_eq_false_iff_eq.mpr c60
                                          clear c60
                                          by_cases c61 : 0 ≤ 1
                                          · rw [if_pos c61] at H
                                            have c61b0 := eq_true c61
                                            have c61b1 : decide (0 ≤ 1) = true := decide_eq_true c61
                                            clear c61
                                            by_cases c62 : 1 ≤ (a0.size : Int)
                                            · rw [if_pos c62] at H
                                              have c62b0 := eq_true c62
                                              have c62b1 : decide (1 ≤ (a0.size : Int)) = true := decide_eq_true c62
                                              clear c62
                                              simp only [Option.some.injEq, Prod.mk.injEq] at H
                                              obtain ⟨rfl, rfl, rfl, rfl⟩ := H
                                              have p47 : 0 ≤ (0 : Int) := (by omega)
                                              have q47 : 0 < a0.size := (by have : (0 : Int) < (a0.size : Int) := of_decide_eq_true (by first | (with_reducible assumption) | assumption); omega)
                                              have hx47 : ∀ h : 0 < a0.size, ((a0[0]'h).toNat : Int) = bt a0 0 := bt_at a0 0
                                              clear p47
                                              have qi47 : (0 < (a0.size : Int)) = True := eq_true (of_decide_eq_true (by first | (with_reducible assumption) | assumption))
                                              replace q47 := eq_true q47
                                              have hcz63_0 : wc.cell? ⟨gb104, 0, none⟩ = some (.int .i64 0) := (blk_cell BK104.out 0).trans rfl
                                              have hcz63_1 : wc.cell? ⟨gb104, 1, none⟩ = some (.string (⟨#[]⟩ : ByteArray)) := (blk_cell BK104.out 1).trans rfl
                                              have hcz63_2 : wc.cell? ⟨gb104, 2, none⟩ = some (.int .i64 0) := (blk_cell BK104.out 2).trans rfl
                                              have hfz63_0 := blk_frozen BK104.out 0
                                              have hfz63_1 := blk_frozen BK104.out 1
                                              have hfz63_2 := blk_frozen BK104.out 2
                                              go_wp2
                                              refine bodyPost_ret (results_ct rfl _ _ gb104 76 #[.int .i64 3, .string (a0.extract 0 1), .int .i64 0] (0, 0) _ rfl (by (with_reducible repeat (first | refine blk_drewN ?_ _ | refine blk_drew ?_ | refine blk_alloc ?_ _)); refine blk_put (cs := #[.int .i64 3, .string (a0.extract 0 1), .int .i64 0]) ?_ 2 _ rfl; (with_reducible repeat (first | refine blk_drewN ?_ _ | refine blk_drew ?_ | refine blk_alloc ?_ _)); refine blk_put (cs := #[.int .i64 3, .string (⟨#[]⟩ : ByteArray), .int .i64 0]) ?_ 1 _ rfl; (with_reducible repeat (first | refine blk_drewN ?_ _ | refine blk_drew ?_ | refine blk_alloc ?_ _)); refine blk_put (cs := #[.int .i64 0, .string (⟨#[]⟩ : ByteArray), .int .i64 0]) ?_ 0 _ rfl; (with_reducible repeat (first | refine blk_drewN ?_ _ | refine blk_drew ?_ | refine blk_alloc ?_ _)); exact BK104.out) Tryd.underlying76 rfl (by kernel_rfl)) rfl ?_
                                              exact ⟨by first | rfl | (simp [errW_none, errW_some] <;> rfl) | (simp [*, errW_none, errW_some] <;> rfl), by repeat (first | (with_reducible first | exact HB.out | apply below_alloc | apply pw_below_drewN | apply below_drew1 | refine below_set ?_ GE104.out) | exact HB.out)⟩
                                            · rw [if_neg c62] at H
                                              exact absurd H (by simp)
                                          · rw [if_neg c61] at H
                                            exact absurd H (by simp)
                                        · rw [if_neg c60] at H
                                          have c60b0 : ((bt a0 0) == 61) = false := beq_eq_false_iff_ne.mpr c60
                                          have c60b1 : ((bt a0 0) != 61) = true := bne_iff_ne.mpr c60
                                          by_cases c64 : (bt a0 0) = 60
                                          · rw [if_pos c64] at H
                                            have c64b0 : ((bt a0 0) == 60) = true := beq_iff_eq.mpr c64
                                            have c64b1 : ((bt a0 0) != 60) = false := bne_eq_false_iff_eq.mpr c64
                                            clear c64
                                            by_cases c65 : 0 ≤ 1
                                            · rw [if_pos c65] at H
                                              have c65b0 := eq_true c65
                                              have c65b1 : decide (0 ≤ 1) = true := decide_eq_true c65
                                              clear c65
                                              by_cases c66 : 1 ≤ (a0.size : Int)
                                              · rw [if_pos c66] at H
                                                have c66b0 := eq_true c66
                                                have c66b1 : decide (1 ≤ (a0.size : Int)) = true := decide_eq_true c66
                                                clear c66
                                                simp only [Option.some.injEq, Prod.mk.injEq] at H
                                                obtain ⟨rfl, rfl, rfl, rfl⟩ := H
                                                have p47 : 0 ≤ (0 : Int) := (by omega)
                                                have q47 : 0 < a0.size := (by have : (0 : Int) < (a0.size : Int) := of_decide_eq_true (by first | (with_reducible assumption) | assumption); omega)
                                                have hx47 : ∀ h : 0 < a0.size, ((a0[0]'h).toNat : Int) = bt a0 0 := bt_at a0 0
                                                clear p47
                                                have qi47 : (0 < (a0.size : Int)) = True := eq_true (of_decide_eq_true (by first | (with_reducible assumption) | assumption))
                                                replace q47 := eq_true q47
                                                have hcz67_0 : wc.cell? ⟨gb104, 0, none⟩ = some (.int .i64 0) := (blk_cell BK104.out 0).trans rfl
                                                have hcz67_1 : wc.cell? ⟨gb104, 1, none⟩ = some (.string (⟨#[]⟩ : ByteArray)) := (blk_cell BK104.out 1).trans rfl
                                                have hcz67_2 : wc.cell? ⟨gb104, 2, none⟩ = some (.int .i64 0) := (blk_cell BK104.out 2).trans rfl
                                                have hfz67_0 := blk_frozen BK104.out 0
                                                have hfz67_1 := blk_frozen BK104.out 1
                                                have hfz67_2 := blk_frozen BK104.out 2
                                                go_wp2
                                                refine bodyPost_ret (results_ct rfl _ _ gb104 76 #[.int .i64 3, .string (a0.extract 0 1), .int .i64 0] (0, 0) _ rfl (by (with_reducible repeat (first | refine blk_drewN ?_ _ | refine blk_drew ?_ | refine blk_alloc ?_ _)); refine blk_put (cs := #[.int .i64 3, .string (a0.extract 0 1), .int .i64 0]) ?_ 2 _ rfl; (with_reducible repeat (first | refine blk_drewN ?_ _ | refine blk_drew ?_ | refine blk_alloc ?_ _)); refine blk_put (cs := #[.int .i64 3, .string (⟨#[]⟩ : ByteArray), .int .i64 0]) ?_ 1 _ rfl; (with_reducible repeat (first | refine blk_drewN ?_ _ | refine blk_drew ?_ | refine blk_alloc ?_ _)); refine blk_put (cs := #[.int .i64 0, .string (⟨#[]⟩ : ByteArray), .int .i64 0]) ?_ 0 _ rfl; (with_reducible repeat (first | refine blk_drewN ?_ _ | refine blk_drew ?_ | refine blk_alloc ?_ _)); exact BK104.out) Tryd.underlying76 rfl (by kernel_rfl)) rfl ?_
                                                exact ⟨by first | rfl | (simp [errW_none, errW_some] <;> rfl) | (simp [*, errW_none, errW_some] <;> rfl), by repeat (first | (with_reducible first | exact HB.out | apply below_alloc | apply pw_below_drewN | apply below_drew1 | refine below_set ?_ GE104.out) | exact HB.out)⟩
                                              · rw [if_neg c66] at H
                                                exact absurd H (by simp)
                                            · rw [if_neg c65] at H
                                              exact absurd H (by simp)
                                          · rw [if_neg c64] at H
                                            have c64b0 : ((bt a0 0) == 60) = false := beq_eq_false_iff_ne.mpr c64
                                            have c64b1 : ((bt a0 0) != 60) = true := bne_iff_ne.mpr c64
                                            by_cases c68 : (bt a0 0) = 62
                                            · rw [if_pos c68] at H
                                              have c68b0 : ((bt a0 0) == 62) = true := beq_iff_eq.mpr c68
                                              have c68b1 : ((bt a0 0) != 62) = false := bne_eq_false_iff_eq.mpr c68
                                              clear c68
                                              by_cases c69 : 0 ≤ 1
                                              · rw [if_pos c69] at H
                                                have c69b0 := eq_true c69
                                                have c69b1 : decide (0 ≤ 1) = true := decide_eq_true c69
                                                clear c69
                                                by_cases c70 : 1 ≤ (a0.size : Int)
                                                · rw [if_pos c70] at H
                                                  have c70b0 := eq_true c70
                                                  have c70b1 : decide (1 ≤ (a0.size : Int)) = true := decide_eq_true c70
                                                  clear c70
                                                  simp only [Option.some.injEq, Prod.mk.injEq] at H
                                                  obtain ⟨rfl, rfl, rfl, rfl⟩ := H
                                                  have p47 : 0 ≤ (0 : Int) := (by omega)
                                                  have q47 : 0 < a0.size := (by have : (0 : Int) < (a0.size : Int) := of_decide_eq_true (by first | (with_reducible assumption) | assumption); omega)
                                                  have hx47 : ∀ h : 0 < a0.size, ((a0[0]'h).toNat : Int) = bt a0 0 := bt_at a0 0
                                                  clear p47
                                                  have qi47 : (0 < (a0.size : Int)) = True := eq_true (of_decide_eq_true (by first | (with_reducible assumption) | assumption))
                                                  replace q47 := eq_true q47
                                                  have hcz71_0 : wc.cell? ⟨gb104, 0, none⟩ = some (.int .i64 0) := (blk_cell BK104.out 0).trans rfl
                                                  have hcz71_1 : wc.cell? ⟨gb104, 1, none⟩ = some (.string (⟨#[]⟩ : ByteArray)) := (blk_cell BK104.out 1).trans rfl
                                                  have hcz71_2 : wc.cell? ⟨gb104, 2, none⟩ = some (.int .i64 0) := (blk_cell BK104.out 2).trans rfl
                                                  have hfz71_0 := blk_frozen BK104.out 0
                                                  have hfz71_1 := blk_frozen BK104.out 1
                                                  have hfz71_2 := blk_frozen BK104.out 2
                                                  go_wp2
                                                  refine bodyPost_ret (results_ct rfl _ _ gb104 76 #[.int .i64 3, .string (a0.extract 0 1), .int .i64 0] (0, 0) _ rfl (by (with_reducible repeat (first | refine blk_drewN ?_ _ | refine blk_drew ?_ | refine blk_alloc ?_ _)); refine blk_put (cs := #[.int .i64 3, .string (a0.extract 0 1), .int .i64 0]) ?_ 2 _ rfl; (with_reducible repeat (first | refine blk_drewN ?_ _ | refine blk_drew ?_ | refine blk_alloc ?_ _)); refine blk_put (cs := #[.int .i64 3, .string (⟨#[]⟩ : ByteArray), .int .i64 0]) ?_ 1 _ rfl; (with_reducible repeat (first | refine blk_drewN ?_ _ | refine blk_drew ?_ | refine blk_alloc ?_ _)); refine blk_put (cs := #[.int .i64 0, .string (⟨#[]⟩ : ByteArray), .int .i64 0]) ?_ 0 _ rfl; (with_reducible repeat (first | refine blk_drewN ?_ _ | refine blk_drew ?_ | refine blk_alloc ?_ _)); exact BK104.out) Tryd.underlying76 rfl (by kernel_rfl)) rfl ?_
                                                  exact ⟨by first | rfl | (simp [errW_none, errW_some] <;> rfl) | (simp [*, errW_none, errW_some] <;> rfl), by repeat (first | (with_reducible first | exact HB.out | apply below_alloc | apply pw_below_drewN | apply below_drew1 | refine below_set ?_ GE104.out) | exact HB.out)⟩
                                                · rw [if_neg c70] at H
                                                  exact absurd H (by simp)
                                              · rw [if_neg c69] at H
                                                exact absurd H (by simp)
                                            · rw [if_neg c68] at H
                                              have c68b0 : ((bt a0 0) == 62) = false := beq_eq_false_iff_ne.mpr c68
                                              have c68b1 : ((bt a0 0) != 62) = true := bne_iff_ne.mpr c68
                                              by_cases c72 : (bt a0 0) = 43
                                              · rw [if_pos c72] at H
                                                have c72b0 : ((bt a0 0) == 43) = true := beq_iff_eq.mpr c72
                                                have c72b1 : ((bt a0 0) != 43) = false := bne_eq_false_iff_eq.mpr c72
                                                clear c72
                                                by_cases c73 : 0 ≤ 1
                                                · rw [if_pos c73] at H
                                                  have c73b0 := eq_true c73
                                                  have c73b1 : decide (0 ≤ 1) = true := decide_eq_true c73
                                                  clear c73
                                                  by_cases c74 : 1 ≤ (a0.size : Int)
                                                  · rw [if_pos c74] at H
                                                    have c74b0 := eq_true c74
                                                    have c74b1 : decide (1 ≤ (a0.size : Int)) = true := decide_eq_true c74
                                                    clear c74
                                                    simp only [Option.some.injEq, Prod.mk.injEq] at H
                                                    obtain ⟨rfl, rfl, rfl, rfl⟩ := H
                                                    have p47 : 0 ≤ (0 : Int) := (by omega)
                                                    have q47 : 0 < a0.size := (by have : (0 : Int) < (a0.size : Int) := of_decide_eq_true (by first | (with_reducible assumption) | assumption); omega)
                                                    have hx47 : ∀ h : 0 < a0.size, ((a0[0]'h).toNat : Int) = bt a0 0 := bt_at a0 0
                                                    clear p47
                                                    have qi47 : (0 < (a0.size : Int)) = True := eq_true (of_decide_eq_true (by first | (with_reducible assumption) | assumption))
                                                    replace q47 := eq_true q47
                                                    have hcz75_0 : wc.cell? ⟨gb104, 0, none⟩ = some (.int .i64 0) := (blk_cell BK104.out 0).trans rfl
                                                    have hcz75_1 : wc.cell? ⟨gb104, 1, none⟩ = some (.string (⟨#[]⟩ : ByteArray)) := (blk_cell BK104.out 1).trans rfl
                                                    have hcz75_2 : wc.cell? ⟨gb104, 2, none⟩ = some (.int .i64 0) := (blk_cell BK104.out 2).trans rfl
                                                    have hfz75_0 := blk_frozen BK104.out 0
                                                    have hfz75_1 := blk_frozen BK104.out 1
                                                    have hfz75_2 := blk_frozen BK104.out 2
                                                    go_wp2
                                                    refine bodyPost_ret (results_ct rfl _ _ gb104 76 #[.int .i64 3, .string (a0.extract 0 1), .int .i64 0] (0, 0) _ rfl (by (with_reducible repeat (first | refine blk_drewN ?_ _ | refine blk_drew ?_ | refine blk_alloc ?_ _)); refine blk_put (cs := #[.int .i64 3, .string (a0.extract 0 1), .int .i64 0]) ?_ 2 _ rfl; (with_reducible repeat (first | refine blk_drewN ?_ _ | refine blk_drew ?_ | refine blk_alloc ?_ _)); refine blk_put (cs := #[.int .i64 3, .string (⟨#[]⟩ : ByteArray), .int .i64 0]) ?_ 1 _ rfl; (with_reducible repeat (first | refine blk_drewN ?_ _ | refine blk_drew ?_ | refine blk_alloc ?_ _)); refine blk_put (cs := #[.int .i64 0, .string (⟨#[]⟩ : ByteArray), .int .i64 0]) ?_ 0 _ rfl; (with_reducible repeat (first | refine blk_drewN ?_ _ | refine blk_drew ?_ | refine blk_alloc ?_ _)); exact BK104.out) Tryd.underlying76 rfl (by kernel_rfl)) rfl ?_
                                                    exact ⟨by first | rfl | (simp [errW_none, errW_some] <;> rfl) | (simp [*, errW_none, errW_some] <;> rfl), by repeat (first | (with_reducible first | exact HB.out | apply below_alloc | apply pw_below_drewN | apply below_drew1 | refine below_set ?_ GE104.out) | exact HB.out)⟩
                                                  · rw [if_neg c74] at H
                                                    exact absurd H (by simp)
                                                · rw [if_neg c73] at H
                                                  exact absurd H (by simp)
                                              · rw [if_neg c72] at H
                                                have c72b0 : ((bt a0 0) == 43) = false := beq_eq_false_iff_ne.mpr c72
                                                have c72b1 : ((bt a0 0) != 43) = true := bne_iff_ne.mpr c72
                                                by_cases c76 : (bt a0 0) = 45
                                                · rw [if_pos c76] at H
                                                  have c76b0 : ((bt a0 0) == 45) = true := beq_iff_eq.mpr c76
                                                  have c76b1 : ((bt a0 0) != 45) = false := bne_eq_false_iff_eq.mpr c76
                                                  clear c76
                                                  by_cases c77 : 0 ≤ 1
                                                  · rw [if_pos c77] at H
                                                    have c77b0 := eq_true c77
                                                    have c77b1 : decide (0 ≤ 1) = true := decide_eq_true c77
                                                    clear c77
                                                    by_cases c78 : 1 ≤ (a0.size : Int)
                                                    · rw [if_pos c78] at H
                                                      have c78b0 := eq_true c78
                                                      have c78b1 : decide (1 ≤ (a0.size : Int)) = true := decide_eq_true c78
                                                      clear c78
                                                      simp only [Option.some.injEq, Prod.mk.injEq] at H
                                                      obtain ⟨rfl, rfl, rfl, rfl⟩ := H
                                                      have p47 : 0 ≤ (0 : Int) := (by omega)
                                                      have q47 : 0 < a0.size := (by have : (0 : Int) < (a0.size : Int) := of_decide_eq_true (by first | (with_reducible assumption) | assumption); omega)
                                                      have hx47 : ∀ h : 0 < a0.size, ((a0[0]'h).toNat : Int) = bt a0 0 := bt_at a0 0
                                                      clear p47
                                                      have qi47 : (0 < (a0.size : Int)) = True := eq_true (of_decide_eq_true (by first | (with_reducible assumption) | assumption))
                                                      replace q47 := eq_true q47
                                                      have hcz79_0 : wc.cell? ⟨gb104, 0, none⟩ = some (.int .i64 0) := (blk_cell BK104.out 0).trans rfl
                                                      have hcz79_1 : wc.cell? ⟨gb104, 1, none⟩ = some (.string (⟨#[]⟩ : ByteArray)) := (blk_cell BK104.out 1).trans rfl
                                                      have hcz79_2 : wc.cell? ⟨gb104, 2, none⟩ = some (.int .i64 0) := (blk_cell BK104.out 2).trans rfl
                                                      have hfz79_0 := blk_frozen BK104.out 0
                                                      have hfz79_1 := blk_frozen BK104.out 1
                                                      have hfz79_2 := blk_frozen BK104.out 2
                                                      go_wp2
                                                      refine bodyPost_ret (results_ct rfl _ _ gb104 76 #[.int .i64 3, .string (a0.extract 0 1), .int .i64 0] (0, 0) _ rfl (by (with_reducible repeat (first | refine blk_drewN ?_ _ | refine blk_drew ?_ | refine blk_alloc ?_ _)); refine blk_put (cs := #[.int .i64 3, .string (a0.extract 0 1), .int .i64 0]) ?_ 2 _ rfl; (with_reducible repeat (first | refine blk_drewN ?_ _ | refine blk_drew ?_ | refine blk_alloc ?_ _)); refine blk_put (cs := #[.int .i64 3, .string (⟨#[]⟩ : ByteArray), .int .i64 0]) ?_ 1 _ rfl; (with_reducible repeat (first | refine blk_drewN ?_ _ | refine blk_drew ?_ | refine blk_alloc ?_ _)); refine blk_put (cs := #[.int .i64 0, .string (⟨#[]⟩ : ByteArray), .int .i64 0]) ?_ 0 _ rfl; (with_reducible repeat (first | refine blk_drewN ?_ _ | refine blk_drew ?_ | refine blk_alloc ?_ _)); exact BK104.out) Tryd.underlying76 rfl (by kernel_rfl)) rfl ?_
                                                      exact ⟨by first | rfl | (simp [errW_none, errW_some] <;> rfl) | (simp [*, errW_none, errW_some] <;> rfl), by repeat (first | (with_reducible first | exact HB.out | apply below_alloc | apply pw_below_drewN | apply below_drew1 | refine below_set ?_ GE104.out) | exact HB.out)⟩
                                                    · rw [if_neg c78] at H
                                                      exact absurd H (by simp)
                                                  · rw [if_neg c77] at H
                                                    exact absurd H (by simp)
                                                · rw [if_neg c76] at H
                                                  have c76b0 : ((bt a0 0) == 45) = false := beq_eq_false_iff_ne.mpr c76
                                                  have c76b1 : ((bt a0 0) != 45) = true := bne_iff_ne.mpr c76
                                                  by_cases c80 : (bt a0 0) = 42
                                                  · rw [if_pos c80] at H
                                                    have c80b0 : ((bt a0 0) == 42) = true := beq_iff_eq.mpr c80
                                                    have c80b1 : ((bt a0 0) != 42) = false := bne_eq_false_iff_eq.mpr c80
                                                    clear c80
                                                    by_cases c81 : 0 ≤ 1
                                                    · rw [if_pos c81] at H
                                                      have c81b0 := eq_true c81
                                                      have c81b1 : decide (0 ≤ 1) = true := decide_eq_true c81
                                                      clear c81
                                                      by_cases c82 : 1 ≤ (a0.size : Int)
                                                      · rw [if_pos c82] at H
                                                        have c82b0 := eq_true c82
                                                        have c82b1 : decide (1 ≤ (a0.size : Int)) = true := decide_eq_true c82
                                                        clear c82
                                                        simp only [Option.some.injEq, Prod.mk.injEq] at H
                                                        obtain ⟨rfl, rfl, rfl, rfl⟩ := H
                                                        have p47 : 0 ≤ (0 : Int) := (by omega)
                                                        have q47 : 0 < a0.size := (by have : (0 : Int) < (a0.size : Int) := of_decide_eq_true (by first | (with_reducible assumption) | assumption); omega)
                                                        have hx47 : ∀ h : 0 < a0.size, ((a0[0]'h).toNat : Int) = bt a0 0 := bt_at a0 0
                                                        clear p47
                                                        have qi47 : (0 < (a0.size : Int)) = True := eq_true (of_decide_eq_true (by first | (with_reducible assumption) | assumption))
                                                        replace q47 := eq_true q47
                                                        have hcz83_0 : wc.cell? ⟨gb104, 0, none⟩ = some (.int .i64 0) := (blk_cell BK104.out 0).trans rfl
                                                        have hcz83_1 : wc.cell? ⟨gb104, 1, none⟩ = some (.string (⟨#[]⟩ : ByteArray)) := (blk_cell BK104.out 1).trans rfl
                                                        have hcz83_2 : wc.cell? ⟨gb104, 2, none⟩ = some (.int .i64 0) := (blk_cell BK104.out 2).trans rfl
                                                        have hfz83_0 := blk_frozen BK104.out 0
                                                        have hfz83_1 := blk_frozen BK104.out 1
                                                        have hfz83_2 := blk_frozen BK104.out 2
                                                        go_wp2
                                                        refine bodyPost_ret (results_ct rfl _ _ gb104 76 #[.int .i64 3, .string (a0.extract 0 1), .int .i64 0] (0, 0) _ rfl (by (with_reducible repeat (first | refine blk_drewN ?_ _ | refine blk_drew ?_ | refine blk_alloc ?_ _)); refine blk_put (cs := #[.int .i64 3, .string (a0.extract 0 1), .int .i64 0]) ?_ 2 _ rfl; (with_reducible repeat (first | refine blk_drewN ?_ _ | refine blk_drew ?_ | refine blk_alloc ?_ _)); refine blk_put (cs := #[.int .i64 3, .string (⟨#[]⟩ : ByteArray), .int .i64 0]) ?_ 1 _ rfl; (with_reducible repeat (first | refine blk_drewN ?_ _ | refine blk_drew ?_ | refine blk_alloc ?_ _)); refine blk_put (cs := #[.int .i64 0, .string (⟨#[]⟩ : ByteArray), .int .i64 0]) ?_ 0 _ rfl; (with_reducible repeat (first | refine blk_drewN ?_ _ | refine blk_drew ?_ | refine blk_alloc ?_ _)); exact BK104.out) Tryd.underlying76 rfl (by kernel_rfl)) rfl ?_
                                                        exact ⟨by first | rfl | (simp [errW_none, errW_some] <;> rfl) | (simp [*, errW_none, errW_some] <;> rfl), by repeat (first | (with_reducible first | exact HB.out | apply below_alloc | apply pw_below_drewN | apply below_drew1 | refine below_set ?_ GE104.out) | exact HB.out)⟩
                                                      · rw [if_neg c82] at H
                                                        exact absurd H (by simp)
                                                    · rw [if_neg c81] at H
                                                      exact absurd H (by simp)
                                                  · rw [if_neg c80] at H
                                                    have c80b0 : ((bt a0 0) == 42) = false := beq_eq_false_iff_ne.mpr c80
                                                    have c80b1 : ((bt a0 0) != 42) = true := bne_iff_ne.mpr c80
                                                    simp only [Option.some.injEq, Prod.mk.injEq] at H
                                                    obtain ⟨rfl, rfl, rfl, rfl⟩ := H
                                                    have p47 : 0 ≤ (0 : Int) := (by omega)
                                                    have q47 : 0 < a0.size := (by have : (0 : Int) < (a0.size : Int) := of_decide_eq_true (by first | (with_reducible assumption) | assumption); omega)
                                                    have hx47 : ∀ h : 0 < a0.size, ((a0[0]'h).toNat : Int) = bt a0 0 := bt_at a0 0
                                                    clear p47
                                                    have qi47 : (0 < (a0.size : Int)) = True := eq_true (of_decide_eq_true (by first | (with_reducible assumption) | assumption))
                                                    replace q47 := eq_true q47
                                                    have hcz84_0 : wc.cell? ⟨gb104, 0, none⟩ = some (.int .i64 0) := (blk_cell BK104.out 0).trans rfl
                                                    have hcz84_1 : wc.cell? ⟨gb104, 1, none⟩ = some (.string (⟨#[]⟩ : ByteArray)) := (blk_cell BK104.out 1).trans rfl
                                                    have hcz84_2 : wc.cell? ⟨gb104, 2, none⟩ = some (.int .i64 0) := (blk_cell BK104.out 2).trans rfl
                                                    have hfz84_0 := blk_frozen BK104.out 0
                                                    have hfz84_1 := blk_frozen BK104.out 1
                                                    have hfz84_2 := blk_frozen BK104.out 2
                                                    go_wp2
                                                    refine bodyPost_ret (results_ct rfl _ _ gb104 76 #[.int .i64 0, .string (⟨#[]⟩ : ByteArray), .int .i64 0] (0, 0) _ rfl (by (with_reducible repeat (first | refine blk_drewN ?_ _ | refine blk_drew ?_ | refine blk_alloc ?_ _)); refine blk_put (cs := #[.int .i64 0, .string (⟨#[]⟩ : ByteArray), .int .i64 0]) ?_ 2 _ rfl; (with_reducible repeat (first | refine blk_drewN ?_ _ | refine blk_drew ?_ | refine blk_alloc ?_ _)); refine blk_put (cs := #[.int .i64 0, .string (⟨#[]⟩ : ByteArray), .int .i64 0]) ?_ 1 _ rfl; (with_reducible repeat (first | refine blk_drewN ?_ _ | refine blk_drew ?_ | refine blk_alloc ?_ _)); refine blk_put (cs := #[.int .i64 0, .string (⟨#[]⟩ : ByteArray), .int .i64 0]) ?_ 0 _ rfl; (with_reducible repeat (first | refine blk_drewN ?_ _ | refine blk_drew ?_ | refine blk_alloc ?_ _)); exact BK104.out) Tryd.underlying76 rfl (by kernel_rfl)) rfl ?_
                                                    exact ⟨by first | rfl | (simp [errW_none, errW_some] <;> rfl) | (simp [*, errW_none, errW_some] <;> rfl), by repeat (first | (with_reducible first | exact HB.out | apply below_alloc | apply pw_below_drewN | apply below_drew1 | refine below_set ?_ GE104.out) | exact HB.out)⟩
                                · rw [if_neg c46] at H
                                  exact absurd H (by simp)
                      · rw [if_neg c25] at H
                        exact absurd H (by simp)
  · rw [if_neg c2] at H
    exact absurd H (by simp)

end Go.Proofs.YtkggdnnhgafopaaDoor.Kp
