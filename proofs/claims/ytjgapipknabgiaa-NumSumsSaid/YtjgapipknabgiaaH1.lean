/- What each function comes to, a contract of its call each (and the row of a law out of its plain statement); no condition beyond what stands in each. -/
import Derived.Test.YtjgapipknabgiaaH0
namespace Go.Proofs.Ytjgapipknabgiaa.Hp
open Go.RowKit Go.Proofs.YtjgapipknabgiaaW.PrintWords Go.Proofs.YtjgapipknabgiaaW.PrintLast Go.Proofs.YtjgapipknabgiaaW.PrintMore
attribute [local go_sem] max2_int min2_int max_two min_two max_three min_three max_four min_four   -- for this text's walks alone
set_option linter.unusedVariables false
set_option linter.unusedSimpArgs false

/-! ### num_Narrow: function 8 -/
def num_Narrow.f (a0 : Int) : Option (Int × Int) := if a0 < (-2147483648) then (some (0, 12)) else (if a0 > 2147483647 then (some (0, 12)) else (some (wrap32 (a0), 0)))
set_option maxHeartbeats 8000000 in
set_option maxRecDepth 100000 in
theorem num_Narrow.calls (a0 : Int) (r1 : Int) (r2 : Int) (w : World) (h : num_Narrow.f a0 = some (r1, r2)) :
    Calls Try.prog 8 #[.int .i64 a0] w fun e w' => e = .returned (.tuple #[.int .i32 r1, .int .i64 r2]) ∧ Drawn0 w w' := by
  have H : (if a0 < (-2147483648) then (some (0, 12)) else (if a0 > 2147483647 then (some (0, 12)) else (some (wrap32 (a0), 0)))) = some (r1, r2) := h
  clear h
  by_cases c2 : a0 < (-2147483648)
  · rw [if_pos c2] at H
    have c2b0 : decide (a0 < (-2147483648)) = true := decide_eq_true c2
    clear c2
    simp only [Option.some.injEq, Prod.mk.injEq] at H
    obtain ⟨rfl, rfl⟩ := H
    go_enter Try.func8, Try.ntmps8
    go_wp2
    go_ret2
    exact ⟨by first | rfl | (simp; done) | (simp [*]; done), by repeat (first | exact Drawn0.refl _ | apply Drawn0.step)⟩
  · rw [if_neg c2] at H
    have c2b0 : decide (a0 < (-2147483648)) = false := decide_eq_false c2
    clear c2
    by_cases c3 : a0 > 2147483647
    · rw [if_pos c3] at H
      have c3b0 : decide (2147483647 < a0) = true := decide_eq_true c3
      clear c3
      simp only [Option.some.injEq, Prod.mk.injEq] at H
      obtain ⟨rfl, rfl⟩ := H
      go_enter Try.func8, Try.ntmps8
      go_wp2
      go_ret2
      exact ⟨by first | rfl | (simp; done) | (simp [*]; done), by repeat (first | exact Drawn0.refl _ | apply Drawn0.step)⟩
    · rw [if_neg c3] at H
      have c3b0 : decide (2147483647 < a0) = false := decide_eq_false c3
      clear c3
      simp only [Option.some.injEq, Prod.mk.injEq] at H
      obtain ⟨rfl, rfl⟩ := H
      go_enter Try.func8, Try.ntmps8
      go_wp2
      go_ret2
      exact ⟨by first | rfl | (simp; done) | (simp [*]; done), by repeat (first | exact Drawn0.refl _ | apply Drawn0.step)⟩

/-! ### instarref01_Narrow: function 9 -/
def instarref01_Narrow.f (a0 : Int) : Option (Int × Int) := if a0 < (-2147483648) then (some (0, 12)) else (if a0 > 2147483647 then (some (0, 12)) else (some (wrap32 (a0), 0)))
set_option maxHeartbeats 8000000 in
set_option maxRecDepth 100000 in
theorem instarref01_Narrow.calls (a0 : Int) (r1 : Int) (r2 : Int) (w : World) (h : instarref01_Narrow.f a0 = some (r1, r2)) :
    Calls Try.prog 9 #[.int .i64 a0] w fun e w' => e = .returned (.tuple #[.int .i32 r1, .int .i64 r2]) ∧ Drawn0 w w' := by
  have H : (if a0 < (-2147483648) then (some (0, 12)) else (if a0 > 2147483647 then (some (0, 12)) else (some (wrap32 (a0), 0)))) = some (r1, r2) := h
  clear h
  by_cases c2 : a0 < (-2147483648)
  · rw [if_pos c2] at H
    have c2b0 : decide (a0 < (-2147483648)) = true := decide_eq_true c2
    clear c2
    simp only [Option.some.injEq, Prod.mk.injEq] at H
    obtain ⟨rfl, rfl⟩ := H
    go_enter Try.func9, Try.ntmps9
    go_wp2
    go_ret2
    exact ⟨by first | rfl | (simp; done) | (simp [*]; done), by repeat (first | exact Drawn0.refl _ | apply Drawn0.step)⟩
  · rw [if_neg c2] at H
    have c2b0 : decide (a0 < (-2147483648)) = false := decide_eq_false c2
    clear c2
    by_cases c3 : a0 > 2147483647
    · rw [if_pos c3] at H
      have c3b0 : decide (2147483647 < a0) = true := decide_eq_true c3
      clear c3
      simp only [Option.some.injEq, Prod.mk.injEq] at H
      obtain ⟨rfl, rfl⟩ := H
      go_enter Try.func9, Try.ntmps9
      go_wp2
      go_ret2
      exact ⟨by first | rfl | (simp; done) | (simp [*]; done), by repeat (first | exact Drawn0.refl _ | apply Drawn0.step)⟩
    · rw [if_neg c3] at H
      have c3b0 : decide (2147483647 < a0) = false := decide_eq_false c3
      clear c3
      simp only [Option.some.injEq, Prod.mk.injEq] at H
      obtain ⟨rfl, rfl⟩ := H
      go_enter Try.func9, Try.ntmps9
      go_wp2
      go_ret2
      exact ⟨by first | rfl | (simp; done) | (simp [*]; done), by repeat (first | exact Drawn0.refl _ | apply Drawn0.step)⟩

/-! ### num_Zig: function 11 -/
def num_Zig.f (a0 : Int) : Option (Int) := some (Go.bits .xor .u64 (IntKind.u64.wrap ((IntKind.u64.wrap (a0)) * 2)) (IntKind.u64.wrap (a0 / 9223372036854775808)))
set_option maxHeartbeats 8000000 in
set_option maxRecDepth 100000 in
theorem num_Zig.calls (a0 : Int) (r : Int) (w : World) (h : num_Zig.f a0 = some r) :
    Calls Try.prog 11 #[.int .i64 a0] w fun e w' => e = .returned (.int .u64 r) ∧ Drawn0 w w' := by
  have H : (some (Go.bits .xor .u64 (IntKind.u64.wrap ((IntKind.u64.wrap (a0)) * 2)) (IntKind.u64.wrap (a0 / 9223372036854775808)))) = some r := h
  clear h
  obtain rfl := Option.some.inj H
  go_enter Try.func11, Try.ntmps11
  go_wp2
  go_ret
  exact ⟨by first | rfl | (simp; done) | (simp [*]; done), by repeat (first | exact Drawn0.refl _ | apply Drawn0.step)⟩

/-! ### num_Add: function 19 -/
def num_Add.f (a0 : Int) (a1 : Int) : Option (Int × Int) := if ((decide ((wrap64 (a0 + a1)) > a0)) == (decide (a1 > 0))) = true then (some (wrap64 (a0 + a1), 0)) else (some (0, 11))
set_option maxHeartbeats 8000000 in
set_option maxRecDepth 100000 in
theorem num_Add.calls (a0 : Int) (a1 : Int) (r1 : Int) (r2 : Int) (w : World) (h : num_Add.f a0 a1 = some (r1, r2)) :
    Calls Try.prog 19 #[.int .i64 a0, .int .i64 a1] w fun e w' => e = .returned (.tuple #[.int .i64 r1, .int .i64 r2]) ∧ Drawn0 w w' := by
  have H : (if ((decide ((wrap64 (a0 + a1)) > a0)) == (decide (a1 > 0))) = true then (some (wrap64 (a0 + a1), 0)) else (some (0, 11))) = some (r1, r2) := h
  clear h
  by_cases c3 : ((decide ((wrap64 (a0 + a1)) > a0)) == (decide (a1 > 0))) = true
  · rw [if_pos c3] at H
    have c3b0 : ((decide ((wrap64 (a0 + a1)) > a0)) == (decide (a1 > 0))) = true := c3
    (try (have c3b1 : decide ((decide ((wrap64 (a0 + a1)) > a0)) = (decide (a1 > 0))) = true := by simpa using c3))
    (try (have c3b2 : ((decide ((wrap64 (a0 + a1)) > a0)) == (decide (a1 > 0))) = true := by simpa using c3))
    clear c3
    simp only [Option.some.injEq, Prod.mk.injEq] at H
    obtain ⟨rfl, rfl⟩ := H
    go_enter Try.func19, Try.ntmps19
    go_wp2
    go_ret2
    exact ⟨by first | rfl | (simp; done) | (simp [*]; done), by repeat (first | exact Drawn0.refl _ | apply Drawn0.step)⟩
  · rw [if_neg c3] at H
    have c3b0 : ((decide ((wrap64 (a0 + a1)) > a0)) == (decide (a1 > 0))) = false := by simpa using c3
    (try (have c3b1 : decide ((decide ((wrap64 (a0 + a1)) > a0)) = (decide (a1 > 0))) = false := by simpa using c3))
    (try (have c3b2 : ((decide ((wrap64 (a0 + a1)) > a0)) == (decide (a1 > 0))) = false := by simpa using c3))
    (try (have c3b3 : ¬ ((decide ((wrap64 (a0 + a1)) > a0)) = (decide (a1 > 0))) := by simpa using c3))
    clear c3
    simp only [Option.some.injEq, Prod.mk.injEq] at H
    obtain ⟨rfl, rfl⟩ := H
    go_enter Try.func19, Try.ntmps19
    go_wp2
    go_ret2
    exact ⟨by first | rfl | (simp; done) | (simp [*]; done), by repeat (first | exact Drawn0.refl _ | apply Drawn0.step)⟩

/-! ### instarlaw01_alive: function 10 -/
def instarlaw01_alive.f  : Option (Bool) := (num_Add.f 4611686018427387904 4611686018427387904).bind fun bt101 => ((num_Mul.f (-4611686018427387904) 2).bind fun bt103 => ((num_Narrow.f (-2147483648)).bind fun bt105 => (if bt101.1 = 0 then (if bt101.2 = 11 then (if bt103.1 = (-9223372036854775808) then (if bt103.2 = 0 then (if bt105.1 = (-2147483648) then (if bt105.2 = 0 then ((num_Zig.f (-3)).bind fun t107 => (if t107 = 5 then ((num_Put.f 258).bind fun t108 => (some (t108.toList == ([0, 0, 0, 0, 0, 0, 1, 2] : List UInt8)))) else (some false))) else (some false)) else (some false)) else (some false)) else (some false)) else (some false)) else (some false))))
set_option maxHeartbeats 8000000 in
set_option maxRecDepth 100000 in
theorem instarlaw01_alive.calls  (r : Bool) (w : World) (h : instarlaw01_alive.f  = some r) :
    Calls Try.prog 10 #[] w fun e w' => e = .returned (.bool r) ∧ Below w.heap.size w w' := by
  have HB := Aside0.mk (Below.refl w.heap.size w)
  have H : ((num_Add.f 4611686018427387904 4611686018427387904).bind fun bt101 => ((num_Mul.f (-4611686018427387904) 2).bind fun bt103 => ((num_Narrow.f (-2147483648)).bind fun bt105 => (if bt101.1 = 0 then (if bt101.2 = 11 then (if bt103.1 = (-9223372036854775808) then (if bt103.2 = 0 then (if bt105.1 = (-2147483648) then (if bt105.2 = 0 then ((num_Zig.f (-3)).bind fun t107 => (if t107 = 5 then ((num_Put.f 258).bind fun t108 => (some (t108.toList == ([0, 0, 0, 0, 0, 0, 1, 2] : List UInt8)))) else (some false))) else (some false)) else (some false)) else (some false)) else (some false)) else (some false)) else (some false))))) = some r := h
  clear h
  replace H := Option.bind_eq_some_iff.mp H
  obtain ⟨⟨t101, t102⟩, A10, H⟩ := H
  replace H : ((num_Mul.f (-4611686018427387904) 2).bind fun bt103 => ((num_Narrow.f (-2147483648)).bind fun bt105 => (if t101 = 0 then (if t102 = 11 then (if bt103.1 = (-9223372036854775808) then (if bt103.2 = 0 then (if bt105.1 = (-2147483648) then (if bt105.2 = 0 then ((num_Zig.f (-3)).bind fun t107 => (if t107 = 5 then ((num_Put.f 258).bind fun t108 => (some (t108.toList == ([0, 0, 0, 0, 0, 0, 1, 2] : List UInt8)))) else (some false))) else (some false)) else (some false)) else (some false)) else (some false)) else (some false)) else (some false)))) = some r := H
  have A1 := Aside0.mk A10
  clear A10
  replace H := Option.bind_eq_some_iff.mp H
  obtain ⟨⟨t103, t104⟩, A20, H⟩ := H
  replace H : ((num_Narrow.f (-2147483648)).bind fun bt105 => (if t101 = 0 then (if t102 = 11 then (if t103 = (-9223372036854775808) then (if t104 = 0 then (if bt105.1 = (-2147483648) then (if bt105.2 = 0 then ((num_Zig.f (-3)).bind fun t107 => (if t107 = 5 then ((num_Put.f 258).bind fun t108 => (some (t108.toList == ([0, 0, 0, 0, 0, 0, 1, 2] : List UInt8)))) else (some false))) else (some false)) else (some false)) else (some false)) else (some false)) else (some false)) else (some false))) = some r := H
  have A2 := Aside0.mk A20
  clear A20
  replace H := Option.bind_eq_some_iff.mp H
  obtain ⟨⟨t105, t106⟩, A30, H⟩ := H
  replace H : (if t101 = 0 then (if t102 = 11 then (if t103 = (-9223372036854775808) then (if t104 = 0 then (if t105 = (-2147483648) then (if t106 = 0 then ((num_Zig.f (-3)).bind fun t107 => (if t107 = 5 then ((num_Put.f 258).bind fun t108 => (some (t108.toList == ([0, 0, 0, 0, 0, 0, 1, 2] : List UInt8)))) else (some false))) else (some false)) else (some false)) else (some false)) else (some false)) else (some false)) else (some false)) = some r := H
  have A3 := Aside0.mk A30
  clear A30
  by_cases c4 : t101 = 0
  · rw [if_pos c4] at H
    have c4b0 : (t101 == 0) = true := beq_iff_eq.mpr c4
    have c4b1 : (t101 != 0) = false := bne_eq_false_iff_eq.mpr c4
    clear c4
    by_cases c5 : t102 = 11
    · rw [if_pos c5] at H
      have c5b0 : (t102 == 11) = true := beq_iff_eq.mpr c5
      have c5b1 : (t102 != 11) = false := bne_eq_false_iff_eq.mpr c5
      clear c5
      by_cases c6 : t103 = (-9223372036854775808)
      · rw [if_pos c6] at H
        have c6b0 : (t103 == (-9223372036854775808)) = true := beq_iff_eq.mpr c6
        have c6b1 : (t103 != (-9223372036854775808)) = false := bne_eq_false_iff_eq.mpr c6
        clear c6
        by_cases c7 : t104 = 0
        · rw [if_pos c7] at H
          have c7b0 : (t104 == 0) = true := beq_iff_eq.mpr c7
          have c7b1 : (t104 != 0) = false := bne_eq_false_iff_eq.mpr c7
          clear c7
          by_cases c8 : t105 = (-2147483648)
          · rw [if_pos c8] at H
            have c8b0 : (t105 == (-2147483648)) = true := beq_iff_eq.mpr c8
            have c8b1 : (t105 != (-2147483648)) = false := bne_eq_false_iff_eq.mpr c8
            clear c8
            by_cases c9 : t106 = 0
            · rw [if_pos c9] at H
              have c9b0 : (t106 == 0) = true := beq_iff_eq.mpr c9
              have c9b1 : (t106 != 0) = false := bne_eq_false_iff_eq.mpr c9
              clear c9
              replace H := Option.bind_eq_some_iff.mp H
              obtain ⟨t107, A100, H⟩ := H
              replace H : (if t107 = 5 then ((num_Put.f 258).bind fun t108 => (some (t108.toList == ([0, 0, 0, 0, 0, 0, 1, 2] : List UInt8)))) else (some false)) = some r := H
              have A10 := Aside0.mk A100
              clear A100
              by_cases c11 : t107 = 5
              · rw [if_pos c11] at H
                have c11b0 : (t107 == 5) = true := beq_iff_eq.mpr c11
                have c11b1 : (t107 != 5) = false := bne_eq_false_iff_eq.mpr c11
                clear c11
                replace H := Option.bind_eq_some_iff.mp H
                obtain ⟨t108, A120, H⟩ := H
                replace H : (some (t108.toList == ([0, 0, 0, 0, 0, 0, 1, 2] : List UInt8))) = some r := H
                have A12 := Aside0.mk A120
                clear A120
                obtain rfl := Option.some.inj H
                go_enter Try.func10, Try.ntmps10
                go_wp2_with (first | ((with_reducible refine gate_callee (f := 19) rfl ?_); refine goesL_ (some 8) rfl rfl Try.func19 (by kernel_rfl) rfl #[.int .i64 4611686018427387904, .int .i64 4611686018427387904] rfl (by (try simp only [List.map_toArray, List.map_cons, List.map_nil]); first | done | rfl | (simp only [List.length_drop, List.length_take]; rfl)) ?_; (with_reducible refine (num_Add.calls 4611686018427387904 4611686018427387904 t101 t102 _ A1.out).mono ?_); rintro e w' ⟨rfl, ⟨nd, rfl⟩⟩; refine ⟨_, rfl, ?_⟩) | ((with_reducible refine gate_callee (f := 23) rfl ?_); refine goesL_ (some 12) rfl rfl Try.func23 (by kernel_rfl) rfl #[.int .i64 (-4611686018427387904), .int .i64 2] rfl (by (try simp only [List.map_toArray, List.map_cons, List.map_nil]); first | done | rfl | (simp only [List.length_drop, List.length_take]; rfl)) ?_; (with_reducible refine (num_Mul.calls (-4611686018427387904) 2 t103 t104 _ A2.out).mono ?_); rintro e w' ⟨rfl, ⟨nd, rfl⟩⟩; refine ⟨_, rfl, ?_⟩) | ((with_reducible refine gate_callee (f := 8) rfl ?_); refine goesL_ (some 16) rfl rfl Try.func8 (by kernel_rfl) rfl #[.int .i64 (-2147483648)] rfl (by (try simp only [List.map_toArray, List.map_cons, List.map_nil]); first | done | rfl | (simp only [List.length_drop, List.length_take]; rfl)) ?_; (with_reducible refine (num_Narrow.calls (-2147483648) t105 t106 _ A3.out).mono ?_); rintro e w' ⟨rfl, ⟨nd, rfl⟩⟩; refine ⟨_, rfl, ?_⟩) | (go_at_call 11; (with_reducible refine (num_Zig.calls (-3) t107 _ A10.out).mono ?_); rintro e w' ⟨rfl, ⟨nd, rfl⟩⟩) | (go_at_call 26; (with_reducible refine (num_Put.calls 258 t108 _ A12.out).mono ?_); rintro e w13 ⟨rfl, hb⟩; have n0_ := Aside0.mk (below_step (by repeat (first | (with_reducible first | exact HB.out | apply below_alloc | apply pw_below_drewN | apply below_drew1) | exact HB.out)) hb); clear HB; have HB := n0_; clear n0_; (try clear hb); (try clear hb2); (try clear hk); (try clear hi)))
                go_ret
                exact ⟨by first | rfl | (simp [errW_none, errW_some] <;> rfl) | (simp [*, errW_none, errW_some] <;> rfl), by repeat (first | (with_reducible first | exact HB.out | apply below_alloc | apply pw_below_drewN | apply below_drew1) | exact HB.out)⟩
              · rw [if_neg c11] at H
                have c11b0 : (t107 == 5) = false := beq_eq_false_iff_ne.mpr c11
                have c11b1 : (t107 != 5) = true := bne_iff_ne.mpr c11
                obtain rfl := Option.some.inj H
                go_enter Try.func10, Try.ntmps10
                go_wp2_with (first | ((with_reducible refine gate_callee (f := 19) rfl ?_); refine goesL_ (some 8) rfl rfl Try.func19 (by kernel_rfl) rfl #[.int .i64 4611686018427387904, .int .i64 4611686018427387904] rfl (by (try simp only [List.map_toArray, List.map_cons, List.map_nil]); first | done | rfl | (simp only [List.length_drop, List.length_take]; rfl)) ?_; (with_reducible refine (num_Add.calls 4611686018427387904 4611686018427387904 t101 t102 _ A1.out).mono ?_); rintro e w' ⟨rfl, ⟨nd, rfl⟩⟩; refine ⟨_, rfl, ?_⟩) | ((with_reducible refine gate_callee (f := 23) rfl ?_); refine goesL_ (some 12) rfl rfl Try.func23 (by kernel_rfl) rfl #[.int .i64 (-4611686018427387904), .int .i64 2] rfl (by (try simp only [List.map_toArray, List.map_cons, List.map_nil]); first | done | rfl | (simp only [List.length_drop, List.length_take]; rfl)) ?_; (with_reducible refine (num_Mul.calls (-4611686018427387904) 2 t103 t104 _ A2.out).mono ?_); rintro e w' ⟨rfl, ⟨nd, rfl⟩⟩; refine ⟨_, rfl, ?_⟩) | ((with_reducible refine gate_callee (f := 8) rfl ?_); refine goesL_ (some 16) rfl rfl Try.func8 (by kernel_rfl) rfl #[.int .i64 (-2147483648)] rfl (by (try simp only [List.map_toArray, List.map_cons, List.map_nil]); first | done | rfl | (simp only [List.length_drop, List.length_take]; rfl)) ?_; (with_reducible refine (num_Narrow.calls (-2147483648) t105 t106 _ A3.out).mono ?_); rintro e w' ⟨rfl, ⟨nd, rfl⟩⟩; refine ⟨_, rfl, ?_⟩) | (go_at_call 11; (with_reducible refine (num_Zig.calls (-3) t107 _ A10.out).mono ?_); rintro e w' ⟨rfl, ⟨nd, rfl⟩⟩))
                go_ret
                exact ⟨by first | rfl | (simp [errW_none, errW_some] <;> rfl) | (simp [*, errW_none, errW_some] <;> rfl), by repeat (first | (with_reducible first | exact HB.out | apply below_alloc | apply pw_below_drewN | apply below_drew1) | exact HB.out)⟩
            · rw [if_neg c9] at H
              have c9b0 : (t106 == 0) = false := beq_eq_false_iff_ne.mpr c9
              have c9b1 : (t106 != 0) = true := bne_iff_ne.mpr c9
              obtain rfl := Option.some.inj H
              go_enter Try.func10, Try.ntmps10
              go_wp2_with (first | ((with_reducible refine gate_callee (f := 19) rfl ?_); refine goesL_ (some 8) rfl rfl Try.func19 (by kernel_rfl) rfl #[.int .i64 4611686018427387904, .int .i64 4611686018427387904] rfl (by (try simp only [List.map_toArray, List.map_cons, List.map_nil]); first | done | rfl | (simp only [List.length_drop, List.length_take]; rfl)) ?_; (with_reducible refine (num_Add.calls 4611686018427387904 4611686018427387904 t101 t102 _ A1.out).mono ?_); rintro e w' ⟨rfl, ⟨nd, rfl⟩⟩; refine ⟨_, rfl, ?_⟩) | ((with_reducible refine gate_callee (f := 23) rfl ?_); refine goesL_ (some 12) rfl rfl Try.func23 (by kernel_rfl) rfl #[.int .i64 (-4611686018427387904), .int .i64 2] rfl (by (try simp only [List.map_toArray, List.map_cons, List.map_nil]); first | done | rfl | (simp only [List.length_drop, List.length_take]; rfl)) ?_; (with_reducible refine (num_Mul.calls (-4611686018427387904) 2 t103 t104 _ A2.out).mono ?_); rintro e w' ⟨rfl, ⟨nd, rfl⟩⟩; refine ⟨_, rfl, ?_⟩) | ((with_reducible refine gate_callee (f := 8) rfl ?_); refine goesL_ (some 16) rfl rfl Try.func8 (by kernel_rfl) rfl #[.int .i64 (-2147483648)] rfl (by (try simp only [List.map_toArray, List.map_cons, List.map_nil]); first | done | rfl | (simp only [List.length_drop, List.length_take]; rfl)) ?_; (with_reducible refine (num_Narrow.calls (-2147483648) t105 t106 _ A3.out).mono ?_); rintro e w' ⟨rfl, ⟨nd, rfl⟩⟩; refine ⟨_, rfl, ?_⟩))
              go_ret
              exact ⟨by first | rfl | (simp [errW_none, errW_some] <;> rfl) | (simp [*, errW_none, errW_some] <;> rfl), by repeat (first | (with_reducible first | exact HB.out | apply below_alloc | apply pw_below_drewN | apply below_drew1) | exact HB.out)⟩
          · rw [if_neg c8] at H
            have c8b0 : (t105 == (-2147483648)) = false := beq_eq_false_iff_ne.mpr c8
            have c8b1 : (t105 != (-2147483648)) = true := bne_iff_ne.mpr c8
            obtain rfl := Option.some.inj H
            go_enter Try.func10, Try.ntmps10
            go_wp2_with (first | ((with_reducible refine gate_callee (f := 19) rfl ?_); refine goesL_ (some 8) rfl rfl Try.func19 (by kernel_rfl) rfl #[.int .i64 4611686018427387904, .int .i64 4611686018427387904] rfl (by (try simp only [List.map_toArray, List.map_cons, List.map_nil]); first | done | rfl | (simp only [List.length_drop, List.length_take]; rfl)) ?_; (with_reducible refine (num_Add.calls 4611686018427387904 4611686018427387904 t101 t102 _ A1.out).mono ?_); rintro e w' ⟨rfl, ⟨nd, rfl⟩⟩; refine ⟨_, rfl, ?_⟩) | ((with_reducible refine gate_callee (f := 23) rfl ?_); refine goesL_ (some 12) rfl rfl Try.func23 (by kernel_rfl) rfl #[.int .i64 (-4611686018427387904), .int .i64 2] rfl (by (try simp only [List.map_toArray, List.map_cons, List.map_nil]); first | done | rfl | (simp only [List.length_drop, List.length_take]; rfl)) ?_; (with_reducible refine (num_Mul.calls (-4611686018427387904) 2 t103 t104 _ A2.out).mono ?_); rintro e w' ⟨rfl, ⟨nd, rfl⟩⟩; refine ⟨_, rfl, ?_⟩) | ((with_reducible refine gate_callee (f := 8) rfl ?_); refine goesL_ (some 16) rfl rfl Try.func8 (by kernel_rfl) rfl #[.int .i64 (-2147483648)] rfl (by (try simp only [List.map_toArray, List.map_cons, List.map_nil]); first | done | rfl | (simp only [List.length_drop, List.length_take]; rfl)) ?_; (with_reducible refine (num_Narrow.calls (-2147483648) t105 t106 _ A3.out).mono ?_); rintro e w' ⟨rfl, ⟨nd, rfl⟩⟩; refine ⟨_, rfl, ?_⟩))
            go_ret
            exact ⟨by first | rfl | (simp [errW_none, errW_some] <;> rfl) | (simp [*, errW_none, errW_some] <;> rfl), by repeat (first | (with_reducible first | exact HB.out | apply below_alloc | apply pw_below_drewN | apply below_drew1) | exact HB.out)⟩
        · rw [if_neg c7] at H
          have c7b0 : (t104 == 0) = false := beq_eq_false_iff_ne.mpr c7
          have c7b1 : (t104 != 0) = true := bne_iff_ne.mpr c7
          obtain rfl := Option.some.inj H
          go_enter Try.func10, Try.ntmps10
          go_wp2_with (first | ((with_reducible refine gate_callee (f := 19) rfl ?_); refine goesL_ (some 8) rfl rfl Try.func19 (by kernel_rfl) rfl #[.int .i64 4611686018427387904, .int .i64 4611686018427387904] rfl (by (try simp only [List.map_toArray, List.map_cons, List.map_nil]); first | done | rfl | (simp only [List.length_drop, List.length_take]; rfl)) ?_; (with_reducible refine (num_Add.calls 4611686018427387904 4611686018427387904 t101 t102 _ A1.out).mono ?_); rintro e w' ⟨rfl, ⟨nd, rfl⟩⟩; refine ⟨_, rfl, ?_⟩) | ((with_reducible refine gate_callee (f := 23) rfl ?_); refine goesL_ (some 12) rfl rfl Try.func23 (by kernel_rfl) rfl #[.int .i64 (-4611686018427387904), .int .i64 2] rfl (by (try simp only [List.map_toArray, List.map_cons, List.map_nil]); first | done | rfl | (simp only [List.length_drop, List.length_take]; rfl)) ?_; (with_reducible refine (num_Mul.calls (-4611686018427387904) 2 t103 t104 _ A2.out).mono ?_); rintro e w' ⟨rfl, ⟨nd, rfl⟩⟩; refine ⟨_, rfl, ?_⟩) | ((with_reducible refine gate_callee (f := 8) rfl ?_); refine goesL_ (some 16) rfl rfl Try.func8 (by kernel_rfl) rfl #[.int .i64 (-2147483648)] rfl (by (try simp only [List.map_toArray, List.map_cons, List.map_nil]); first | done | rfl | (simp only [List.length_drop, List.length_take]; rfl)) ?_; (with_reducible refine (num_Narrow.calls (-2147483648) t105 t106 _ A3.out).mono ?_); rintro e w' ⟨rfl, ⟨nd, rfl⟩⟩; refine ⟨_, rfl, ?_⟩))
          go_ret
          exact ⟨by first | rfl | (simp [errW_none, errW_some] <;> rfl) | (simp [*, errW_none, errW_some] <;> rfl), by repeat (first | (with_reducible first | exact HB.out | apply below_alloc | apply pw_below_drewN | apply below_drew1) | exact HB.out)⟩
      · rw [if_neg c6] at H
        have c6b0 : (t103 == (-9223372036854775808)) = false := beq_eq_false_iff_ne.mpr c6
        have c6b1 : (t103 != (-9223372036854775808)) = true := bne_iff_ne.mpr c6
        obtain rfl := Option.some.inj H
        go_enter Try.func10, Try.ntmps10
        go_wp2_with (first | ((with_reducible refine gate_callee (f := 19) rfl ?_); refine goesL_ (some 8) rfl rfl Try.func19 (by kernel_rfl) rfl #[.int .i64 4611686018427387904, .int .i64 4611686018427387904] rfl (by (try simp only [List.map_toArray, List.map_cons, List.map_nil]); first | done | rfl | (simp only [List.length_drop, List.length_take]; rfl)) ?_; (with_reducible refine (num_Add.calls 4611686018427387904 4611686018427387904 t101 t102 _ A1.out).mono ?_); rintro e w' ⟨rfl, ⟨nd, rfl⟩⟩; refine ⟨_, rfl, ?_⟩) | ((with_reducible refine gate_callee (f := 23) rfl ?_); refine goesL_ (some 12) rfl rfl Try.func23 (by kernel_rfl) rfl #[.int .i64 (-4611686018427387904), .int .i64 2] rfl (by (try simp only [List.map_toArray, List.map_cons, List.map_nil]); first | done | rfl | (simp only [List.length_drop, List.length_take]; rfl)) ?_; (with_reducible refine (num_Mul.calls (-4611686018427387904) 2 t103 t104 _ A2.out).mono ?_); rintro e w' ⟨rfl, ⟨nd, rfl⟩⟩; refine ⟨_, rfl, ?_⟩) | ((with_reducible refine gate_callee (f := 8) rfl ?_); refine goesL_ (some 16) rfl rfl Try.func8 (by kernel_rfl) rfl #[.int .i64 (-2147483648)] rfl (by (try simp only [List.map_toArray, List.map_cons, List.map_nil]); first | done | rfl | (simp only [List.length_drop, List.length_take]; rfl)) ?_; (with_reducible refine (num_Narrow.calls (-2147483648) t105 t106 _ A3.out).mono ?_); rintro e w' ⟨rfl, ⟨nd, rfl⟩⟩; refine ⟨_, rfl, ?_⟩))
        go_ret
        exact ⟨by first | rfl | (simp [errW_none, errW_some] <;> rfl) | (simp [*, errW_none, errW_some] <;> rfl), by repeat (first | (with_reducible first | exact HB.out | apply below_alloc | apply pw_below_drewN | apply below_drew1) | exact HB.out)⟩
    · rw [if_neg c5] at H
      have c5b0 : (t102 == 11) = false := beq_eq_false_iff_ne.mpr c5
      have c5b1 : (t102 != 11) = true := bne_iff_ne.mpr c5
      obtain rfl := Option.some.inj H
      go_enter Try.func10, Try.ntmps10
      go_wp2_with (first | ((with_reducible refine gate_callee (f := 19) rfl ?_); refine goesL_ (some 8) rfl rfl Try.func19 (by kernel_rfl) rfl #[.int .i64 4611686018427387904, .int .i64 4611686018427387904] rfl (by (try simp only [List.map_toArray, List.map_cons, List.map_nil]); first | done | rfl | (simp only [List.length_drop, List.length_take]; rfl)) ?_; (with_reducible refine (num_Add.calls 4611686018427387904 4611686018427387904 t101 t102 _ A1.out).mono ?_); rintro e w' ⟨rfl, ⟨nd, rfl⟩⟩; refine ⟨_, rfl, ?_⟩) | ((with_reducible refine gate_callee (f := 23) rfl ?_); refine goesL_ (some 12) rfl rfl Try.func23 (by kernel_rfl) rfl #[.int .i64 (-4611686018427387904), .int .i64 2] rfl (by (try simp only [List.map_toArray, List.map_cons, List.map_nil]); first | done | rfl | (simp only [List.length_drop, List.length_take]; rfl)) ?_; (with_reducible refine (num_Mul.calls (-4611686018427387904) 2 t103 t104 _ A2.out).mono ?_); rintro e w' ⟨rfl, ⟨nd, rfl⟩⟩; refine ⟨_, rfl, ?_⟩) | ((with_reducible refine gate_callee (f := 8) rfl ?_); refine goesL_ (some 16) rfl rfl Try.func8 (by kernel_rfl) rfl #[.int .i64 (-2147483648)] rfl (by (try simp only [List.map_toArray, List.map_cons, List.map_nil]); first | done | rfl | (simp only [List.length_drop, List.length_take]; rfl)) ?_; (with_reducible refine (num_Narrow.calls (-2147483648) t105 t106 _ A3.out).mono ?_); rintro e w' ⟨rfl, ⟨nd, rfl⟩⟩; refine ⟨_, rfl, ?_⟩))
      go_ret
      exact ⟨by first | rfl | (simp [errW_none, errW_some] <;> rfl) | (simp [*, errW_none, errW_some] <;> rfl), by repeat (first | (with_reducible first | exact HB.out | apply below_alloc | apply pw_below_drewN | apply below_drew1) | exact HB.out)⟩
  · rw [if_neg c4] at H
    have c4b0 : (t101 == 0) = false := beq_eq_false_iff_ne.mpr c4
    have c4b1 : (t101 != 0) = true := bne_iff_ne.mpr c4
    obtain rfl := Option.some.inj H
    go_enter Try.func10, Try.ntmps10
    go_wp2_with (first | ((with_reducible refine gate_callee (f := 19) rfl ?_); refine goesL_ (some 8) rfl rfl Try.func19 (by kernel_rfl) rfl #[.int .i64 4611686018427387904, .int .i64 4611686018427387904] rfl (by (try simp only [List.map_toArray, List.map_cons, List.map_nil]); first | done | rfl | (simp only [List.length_drop, List.length_take]; rfl)) ?_; (with_reducible refine (num_Add.calls 4611686018427387904 4611686018427387904 t101 t102 _ A1.out).mono ?_); rintro e w' ⟨rfl, ⟨nd, rfl⟩⟩; refine ⟨_, rfl, ?_⟩) | ((with_reducible refine gate_callee (f := 23) rfl ?_); refine goesL_ (some 12) rfl rfl Try.func23 (by kernel_rfl) rfl #[.int .i64 (-4611686018427387904), .int .i64 2] rfl (by (try simp only [List.map_toArray, List.map_cons, List.map_nil]); first | done | rfl | (simp only [List.length_drop, List.length_take]; rfl)) ?_; (with_reducible refine (num_Mul.calls (-4611686018427387904) 2 t103 t104 _ A2.out).mono ?_); rintro e w' ⟨rfl, ⟨nd, rfl⟩⟩; refine ⟨_, rfl, ?_⟩) | ((with_reducible refine gate_callee (f := 8) rfl ?_); refine goesL_ (some 16) rfl rfl Try.func8 (by kernel_rfl) rfl #[.int .i64 (-2147483648)] rfl (by (try simp only [List.map_toArray, List.map_cons, List.map_nil]); first | done | rfl | (simp only [List.length_drop, List.length_take]; rfl)) ?_; (with_reducible refine (num_Narrow.calls (-2147483648) t105 t106 _ A3.out).mono ?_); rintro e w' ⟨rfl, ⟨nd, rfl⟩⟩; refine ⟨_, rfl, ?_⟩))
    go_ret
    exact ⟨by first | rfl | (simp [errW_none, errW_some] <;> rfl) | (simp [*, errW_none, errW_some] <;> rfl), by repeat (first | (with_reducible first | exact HB.out | apply below_alloc | apply pw_below_drewN | apply below_drew1) | exact HB.out)⟩

/-! ### instarref01_Zig: function 12 -/
def instarref01_Zig.f (a0 : Int) : Option (Int) := if a0 ≥ 0 then (some (IntKind.u64.wrap (2 * (IntKind.u64.wrap (a0))))) else (some (IntKind.u64.wrap ((IntKind.u64.wrap (2 * (IntKind.u64.wrap (wrap64 (-(wrap64 (a0 + 1))))))) + 1)))
set_option maxHeartbeats 8000000 in
set_option maxRecDepth 100000 in
theorem instarref01_Zig.calls (a0 : Int) (r : Int) (w : World) (h : instarref01_Zig.f a0 = some r) :
    Calls Try.prog 12 #[.int .i64 a0] w fun e w' => e = .returned (.int .u64 r) ∧ Drawn0 w w' := by
  have H : (if a0 ≥ 0 then (some (IntKind.u64.wrap (2 * (IntKind.u64.wrap (a0))))) else (some (IntKind.u64.wrap ((IntKind.u64.wrap (2 * (IntKind.u64.wrap (wrap64 (-(wrap64 (a0 + 1))))))) + 1)))) = some r := h
  clear h
  by_cases c2 : a0 ≥ 0
  · rw [if_pos c2] at H
    have c2b0 : decide (0 ≤ a0) = true := decide_eq_true c2
    clear c2
    obtain rfl := Option.some.inj H
    go_enter Try.func12, Try.ntmps12
    go_wp2
    go_ret
    exact ⟨by first | rfl | (simp; done) | (simp [*]; done), by repeat (first | exact Drawn0.refl _ | apply Drawn0.step)⟩
  · rw [if_neg c2] at H
    have c2b0 : decide (0 ≤ a0) = false := decide_eq_false c2
    clear c2
    obtain rfl := Option.some.inj H
    go_enter Try.func12, Try.ntmps12
    go_wp2
    go_ret
    exact ⟨by first | rfl | (simp; done) | (simp [*]; done), by repeat (first | exact Drawn0.refl _ | apply Drawn0.step)⟩

/-! ### num_Zag: function 13 -/
def num_Zag.f (a0 : Int) : Option (Int) := some (Go.bits .xor .i64 (wrap64 (a0 / 2)) (wrap64 (-(wrap64 (Go.bits .and .u64 a0 1)))))
set_option maxHeartbeats 8000000 in
set_option maxRecDepth 100000 in
theorem num_Zag.calls (a0 : Int) (r : Int) (w : World) (h : num_Zag.f a0 = some r) :
    Calls Try.prog 13 #[.int .u64 a0] w fun e w' => e = .returned (.int .i64 r) ∧ Drawn0 w w' := by
  have H : (some (Go.bits .xor .i64 (wrap64 (a0 / 2)) (wrap64 (-(wrap64 (Go.bits .and .u64 a0 1)))))) = some r := h
  clear h
  obtain rfl := Option.some.inj H
  go_enter Try.func13, Try.ntmps13
  go_wp2
  go_ret
  exact ⟨by first | rfl | (simp; done) | (simp [*]; done), by repeat (first | exact Drawn0.refl _ | apply Drawn0.step)⟩

/-! ### instarref01_Zag: function 14 -/
def instarref01_Zag.f (a0 : Int) : Option (Int) := if (Int.tmod a0 2) = 0 then (some (wrap64 (IntKind.u64.wrap (Int.tdiv a0 2)))) else (some (wrap64 ((wrap64 (-(wrap64 (IntKind.u64.wrap (Int.tdiv a0 2))))) - 1)))
set_option maxHeartbeats 8000000 in
set_option maxRecDepth 100000 in
theorem instarref01_Zag.calls (a0 : Int) (r : Int) (w : World) (h : instarref01_Zag.f a0 = some r) :
    Calls Try.prog 14 #[.int .u64 a0] w fun e w' => e = .returned (.int .i64 r) ∧ Drawn0 w w' := by
  have H : (if (Int.tmod a0 2) = 0 then (some (wrap64 (IntKind.u64.wrap (Int.tdiv a0 2)))) else (some (wrap64 ((wrap64 (-(wrap64 (IntKind.u64.wrap (Int.tdiv a0 2))))) - 1)))) = some r := h
  clear h
  by_cases c2 : (Int.tmod a0 2) = 0
  · rw [if_pos c2] at H
    have c2b0 : ((Int.tmod a0 2) == 0) = true := beq_iff_eq.mpr c2
    have c2b1 : ((Int.tmod a0 2) != 0) = false := bne_eq_false_iff_eq.mpr c2
    clear c2
    obtain rfl := Option.some.inj H
    go_enter Try.func14, Try.ntmps14
    go_wp2
    go_ret
    exact ⟨by first | rfl | (simp; done) | (simp [*]; done), by repeat (first | exact Drawn0.refl _ | apply Drawn0.step)⟩
  · rw [if_neg c2] at H
    have c2b0 : ((Int.tmod a0 2) == 0) = false := beq_eq_false_iff_ne.mpr c2
    have c2b1 : ((Int.tmod a0 2) != 0) = true := bne_iff_ne.mpr c2
    obtain rfl := Option.some.inj H
    go_enter Try.func14, Try.ntmps14
    go_wp2
    go_ret
    exact ⟨by first | rfl | (simp; done) | (simp [*]; done), by repeat (first | exact Drawn0.refl _ | apply Drawn0.step)⟩

/-! ### num_Flip: function 15 -/
def num_Flip.f (a0 : Int) : Option (Int) := some (Go.bits .xor .u64 (IntKind.u64.wrap (a0)) 9223372036854775808)
set_option maxHeartbeats 8000000 in
set_option maxRecDepth 100000 in
theorem num_Flip.calls (a0 : Int) (r : Int) (w : World) (h : num_Flip.f a0 = some r) :
    Calls Try.prog 15 #[.int .i64 a0] w fun e w' => e = .returned (.int .u64 r) ∧ Drawn0 w w' := by
  have H : (some (Go.bits .xor .u64 (IntKind.u64.wrap (a0)) 9223372036854775808)) = some r := h
  clear h
  obtain rfl := Option.some.inj H
  go_enter Try.func15, Try.ntmps15
  go_wp2
  go_ret
  exact ⟨by first | rfl | (simp; done) | (simp [*]; done), by repeat (first | exact Drawn0.refl _ | apply Drawn0.step)⟩

/-! ### instarref01_Flip: function 16 -/
def instarref01_Flip.f (a0 : Int) : Option (Int) := if a0 ≥ 0 then (some (IntKind.u64.wrap ((IntKind.u64.wrap (a0)) + 9223372036854775808))) else (some (IntKind.u64.wrap (wrap64 (a0 - (-9223372036854775808)))))
set_option maxHeartbeats 8000000 in
set_option maxRecDepth 100000 in
theorem instarref01_Flip.calls (a0 : Int) (r : Int) (w : World) (h : instarref01_Flip.f a0 = some r) :
    Calls Try.prog 16 #[.int .i64 a0] w fun e w' => e = .returned (.int .u64 r) ∧ Drawn0 w w' := by
  have H : (if a0 ≥ 0 then (some (IntKind.u64.wrap ((IntKind.u64.wrap (a0)) + 9223372036854775808))) else (some (IntKind.u64.wrap (wrap64 (a0 - (-9223372036854775808)))))) = some r := h
  clear h
  by_cases c2 : a0 ≥ 0
  · rw [if_pos c2] at H
    have c2b0 : decide (0 ≤ a0) = true := decide_eq_true c2
    clear c2
    obtain rfl := Option.some.inj H
    go_enter Try.func16, Try.ntmps16
    go_wp2
    go_ret
    exact ⟨by first | rfl | (simp; done) | (simp [*]; done), by repeat (first | exact Drawn0.refl _ | apply Drawn0.step)⟩
  · rw [if_neg c2] at H
    have c2b0 : decide (0 ≤ a0) = false := decide_eq_false c2
    clear c2
    obtain rfl := Option.some.inj H
    go_enter Try.func16, Try.ntmps16
    go_wp2
    go_ret
    exact ⟨by first | rfl | (simp; done) | (simp [*]; done), by repeat (first | exact Drawn0.refl _ | apply Drawn0.step)⟩

/-! ### num_Unflip: function 17 -/
def num_Unflip.f (a0 : Int) : Option (Int) := some (wrap64 (Go.bits .xor .u64 a0 9223372036854775808))
set_option maxHeartbeats 8000000 in
set_option maxRecDepth 100000 in
theorem num_Unflip.calls (a0 : Int) (r : Int) (w : World) (h : num_Unflip.f a0 = some r) :
    Calls Try.prog 17 #[.int .u64 a0] w fun e w' => e = .returned (.int .i64 r) ∧ Drawn0 w w' := by
  have H : (some (wrap64 (Go.bits .xor .u64 a0 9223372036854775808))) = some r := h
  clear h
  obtain rfl := Option.some.inj H
  go_enter Try.func17, Try.ntmps17
  go_wp2
  go_ret
  exact ⟨by first | rfl | (simp; done) | (simp [*]; done), by repeat (first | exact Drawn0.refl _ | apply Drawn0.step)⟩

/-! ### instarref01_Unflip: function 18 -/
def instarref01_Unflip.f (a0 : Int) : Option (Int) := if a0 ≥ 9223372036854775808 then (some (wrap64 (IntKind.u64.wrap (a0 - 9223372036854775808)))) else (some (wrap64 ((wrap64 (a0)) + (-9223372036854775808))))
set_option maxHeartbeats 8000000 in
set_option maxRecDepth 100000 in
theorem instarref01_Unflip.calls (a0 : Int) (r : Int) (w : World) (h : instarref01_Unflip.f a0 = some r) :
    Calls Try.prog 18 #[.int .u64 a0] w fun e w' => e = .returned (.int .i64 r) ∧ Drawn0 w w' := by
  have H : (if a0 ≥ 9223372036854775808 then (some (wrap64 (IntKind.u64.wrap (a0 - 9223372036854775808)))) else (some (wrap64 ((wrap64 (a0)) + (-9223372036854775808))))) = some r := h
  clear h
  by_cases c2 : a0 ≥ 9223372036854775808
  · rw [if_pos c2] at H
    have c2b0 : decide (9223372036854775808 ≤ a0) = true := decide_eq_true c2
    clear c2
    obtain rfl := Option.some.inj H
    go_enter Try.func18, Try.ntmps18
    go_wp2
    go_ret
    exact ⟨by first | rfl | (simp; done) | (simp [*]; done), by repeat (first | exact Drawn0.refl _ | apply Drawn0.step)⟩
  · rw [if_neg c2] at H
    have c2b0 : decide (9223372036854775808 ≤ a0) = false := decide_eq_false c2
    clear c2
    obtain rfl := Option.some.inj H
    go_enter Try.func18, Try.ntmps18
    go_wp2
    go_ret
    exact ⟨by first | rfl | (simp; done) | (simp [*]; done), by repeat (first | exact Drawn0.refl _ | apply Drawn0.step)⟩

/-! ### instarlaw01_NumNarrow: function 3 -/
def instarlaw01_NumNarrow.f (a0 : Int) (a1 : Int) : Option (Bool) := (num_Narrow.f a0).bind fun bt109 => ((instarref01_Narrow.f a0).bind fun bt111 => ((instarlaw01_alive.f).bind fun t113 => (if t113 = true then (if bt109.1 = bt111.1 then (if bt109.2 = bt111.2 then ((num_Zig.f a0).bind fun t114 => ((instarref01_Zig.f a0).bind fun t115 => (if t114 = t115 then ((num_Zag.f a1).bind fun t116 => ((instarref01_Zag.f a1).bind fun t117 => (if t116 = t117 then ((num_Flip.f a0).bind fun t118 => ((instarref01_Flip.f a0).bind fun t119 => (if t118 = t119 then ((num_Unflip.f a1).bind fun t120 => ((instarref01_Unflip.f a1).bind fun t121 => (some (t120 == t121)))) else (some false)))) else (some false)))) else (some false)))) else (some false)) else (some false)) else (some false))))
set_option maxHeartbeats 8000000 in
set_option maxRecDepth 100000 in
theorem instarlaw01_NumNarrow.calls (a0 : Int) (a1 : Int) (r : Bool) (w : World) (h : instarlaw01_NumNarrow.f a0 a1 = some r) :
    Calls Try.prog 3 #[.int .i64 a0, .int .u64 a1] w fun e w' => e = .returned (.bool r) ∧ Below w.heap.size w w' := by
  have HB := Aside0.mk (Below.refl w.heap.size w)
  have H : ((num_Narrow.f a0).bind fun bt109 => ((instarref01_Narrow.f a0).bind fun bt111 => ((instarlaw01_alive.f).bind fun t113 => (if t113 = true then (if bt109.1 = bt111.1 then (if bt109.2 = bt111.2 then ((num_Zig.f a0).bind fun t114 => ((instarref01_Zig.f a0).bind fun t115 => (if t114 = t115 then ((num_Zag.f a1).bind fun t116 => ((instarref01_Zag.f a1).bind fun t117 => (if t116 = t117 then ((num_Flip.f a0).bind fun t118 => ((instarref01_Flip.f a0).bind fun t119 => (if t118 = t119 then ((num_Unflip.f a1).bind fun t120 => ((instarref01_Unflip.f a1).bind fun t121 => (some (t120 == t121)))) else (some false)))) else (some false)))) else (some false)))) else (some false)) else (some false)) else (some false))))) = some r := h
  clear h
  replace H := Option.bind_eq_some_iff.mp H
  obtain ⟨⟨t109, t110⟩, A30, H⟩ := H
  replace H : ((instarref01_Narrow.f a0).bind fun bt111 => ((instarlaw01_alive.f).bind fun t113 => (if t113 = true then (if t109 = bt111.1 then (if t110 = bt111.2 then ((num_Zig.f a0).bind fun t114 => ((instarref01_Zig.f a0).bind fun t115 => (if t114 = t115 then ((num_Zag.f a1).bind fun t116 => ((instarref01_Zag.f a1).bind fun t117 => (if t116 = t117 then ((num_Flip.f a0).bind fun t118 => ((instarref01_Flip.f a0).bind fun t119 => (if t118 = t119 then ((num_Unflip.f a1).bind fun t120 => ((instarref01_Unflip.f a1).bind fun t121 => (some (t120 == t121)))) else (some false)))) else (some false)))) else (some false)))) else (some false)) else (some false)) else (some false)))) = some r := H
  have A3 := Aside0.mk A30
  clear A30
  replace H := Option.bind_eq_some_iff.mp H
  obtain ⟨⟨t111, t112⟩, A40, H⟩ := H
  replace H : ((instarlaw01_alive.f).bind fun t113 => (if t113 = true then (if t109 = t111 then (if t110 = t112 then ((num_Zig.f a0).bind fun t114 => ((instarref01_Zig.f a0).bind fun t115 => (if t114 = t115 then ((num_Zag.f a1).bind fun t116 => ((instarref01_Zag.f a1).bind fun t117 => (if t116 = t117 then ((num_Flip.f a0).bind fun t118 => ((instarref01_Flip.f a0).bind fun t119 => (if t118 = t119 then ((num_Unflip.f a1).bind fun t120 => ((instarref01_Unflip.f a1).bind fun t121 => (some (t120 == t121)))) else (some false)))) else (some false)))) else (some false)))) else (some false)) else (some false)) else (some false))) = some r := H
  have A4 := Aside0.mk A40
  clear A40
  replace H := Option.bind_eq_some_iff.mp H
  obtain ⟨t113, A50, H⟩ := H
  replace H : (if t113 = true then (if t109 = t111 then (if t110 = t112 then ((num_Zig.f a0).bind fun t114 => ((instarref01_Zig.f a0).bind fun t115 => (if t114 = t115 then ((num_Zag.f a1).bind fun t116 => ((instarref01_Zag.f a1).bind fun t117 => (if t116 = t117 then ((num_Flip.f a0).bind fun t118 => ((instarref01_Flip.f a0).bind fun t119 => (if t118 = t119 then ((num_Unflip.f a1).bind fun t120 => ((instarref01_Unflip.f a1).bind fun t121 => (some (t120 == t121)))) else (some false)))) else (some false)))) else (some false)))) else (some false)) else (some false)) else (some false)) = some r := H
  have A5 := Aside0.mk A50
  clear A50
  by_cases c6 : t113 = true
  · subst c6
    have H1 : (if t109 = t111 then (if t110 = t112 then ((num_Zig.f a0).bind fun t114 => ((instarref01_Zig.f a0).bind fun t115 => (if t114 = t115 then ((num_Zag.f a1).bind fun t116 => ((instarref01_Zag.f a1).bind fun t117 => (if t116 = t117 then ((num_Flip.f a0).bind fun t118 => ((instarref01_Flip.f a0).bind fun t119 => (if t118 = t119 then ((num_Unflip.f a1).bind fun t120 => ((instarref01_Unflip.f a1).bind fun t121 => (some (t120 == t121)))) else (some false)))) else (some false)))) else (some false)))) else (some false)) else (some false)) = some r := by rw [if_pos rfl] at H; exact H
    clear H
    have H := H1
    clear H1
    by_cases c7 : t109 = t111
    · rw [if_pos c7] at H
      have c7b0 : (t109 == t111) = true := beq_iff_eq.mpr c7
      have c7b1 : (t109 != t111) = false := bne_eq_false_iff_eq.mpr c7
      clear c7
      by_cases c8 : t110 = t112
      · rw [if_pos c8] at H
        have c8b0 : (t110 == t112) = true := beq_iff_eq.mpr c8
        have c8b1 : (t110 != t112) = false := bne_eq_false_iff_eq.mpr c8
        clear c8
        replace H := Option.bind_eq_some_iff.mp H
        obtain ⟨t114, A90, H⟩ := H
        replace H : ((instarref01_Zig.f a0).bind fun t115 => (if t114 = t115 then ((num_Zag.f a1).bind fun t116 => ((instarref01_Zag.f a1).bind fun t117 => (if t116 = t117 then ((num_Flip.f a0).bind fun t118 => ((instarref01_Flip.f a0).bind fun t119 => (if t118 = t119 then ((num_Unflip.f a1).bind fun t120 => ((instarref01_Unflip.f a1).bind fun t121 => (some (t120 == t121)))) else (some false)))) else (some false)))) else (some false))) = some r := H
        have A9 := Aside0.mk A90
        clear A90
        replace H := Option.bind_eq_some_iff.mp H
        obtain ⟨t115, A100, H⟩ := H
        replace H : (if t114 = t115 then ((num_Zag.f a1).bind fun t116 => ((instarref01_Zag.f a1).bind fun t117 => (if t116 = t117 then ((num_Flip.f a0).bind fun t118 => ((instarref01_Flip.f a0).bind fun t119 => (if t118 = t119 then ((num_Unflip.f a1).bind fun t120 => ((instarref01_Unflip.f a1).bind fun t121 => (some (t120 == t121)))) else (some false)))) else (some false)))) else (some false)) = some r := H
        have A10 := Aside0.mk A100
        clear A100
        by_cases c11 : t114 = t115
        · rw [if_pos c11] at H
          have c11b0 : (t114 == t115) = true := beq_iff_eq.mpr c11
          have c11b1 : (t114 != t115) = false := bne_eq_false_iff_eq.mpr c11
          clear c11
          replace H := Option.bind_eq_some_iff.mp H
          obtain ⟨t116, A120, H⟩ := H
          replace H : ((instarref01_Zag.f a1).bind fun t117 => (if t116 = t117 then ((num_Flip.f a0).bind fun t118 => ((instarref01_Flip.f a0).bind fun t119 => (if t118 = t119 then ((num_Unflip.f a1).bind fun t120 => ((instarref01_Unflip.f a1).bind fun t121 => (some (t120 == t121)))) else (some false)))) else (some false))) = some r := H
          have A12 := Aside0.mk A120
          clear A120
          replace H := Option.bind_eq_some_iff.mp H
          obtain ⟨t117, A130, H⟩ := H
          replace H : (if t116 = t117 then ((num_Flip.f a0).bind fun t118 => ((instarref01_Flip.f a0).bind fun t119 => (if t118 = t119 then ((num_Unflip.f a1).bind fun t120 => ((instarref01_Unflip.f a1).bind fun t121 => (some (t120 == t121)))) else (some false)))) else (some false)) = some r := H
          have A13 := Aside0.mk A130
          clear A130
          by_cases c14 : t116 = t117
          · rw [if_pos c14] at H
            have c14b0 : (t116 == t117) = true := beq_iff_eq.mpr c14
            have c14b1 : (t116 != t117) = false := bne_eq_false_iff_eq.mpr c14
            clear c14
            replace H := Option.bind_eq_some_iff.mp H
            obtain ⟨t118, A150, H⟩ := H
            replace H : ((instarref01_Flip.f a0).bind fun t119 => (if t118 = t119 then ((num_Unflip.f a1).bind fun t120 => ((instarref01_Unflip.f a1).bind fun t121 => (some (t120 == t121)))) else (some false))) = some r := H
            have A15 := Aside0.mk A150
            clear A150
            replace H := Option.bind_eq_some_iff.mp H
            obtain ⟨t119, A160, H⟩ := H
            replace H : (if t118 = t119 then ((num_Unflip.f a1).bind fun t120 => ((instarref01_Unflip.f a1).bind fun t121 => (some (t120 == t121)))) else (some false)) = some r := H
            have A16 := Aside0.mk A160
            clear A160
            by_cases c17 : t118 = t119
            · rw [if_pos c17] at H
              have c17b0 : (t118 == t119) = true := beq_iff_eq.mpr c17
              have c17b1 : (t118 != t119) = false := bne_eq_false_iff_eq.mpr c17
              clear c17
              replace H := Option.bind_eq_some_iff.mp H
              obtain ⟨t120, A180, H⟩ := H
              replace H : ((instarref01_Unflip.f a1).bind fun t121 => (some (t120 == t121))) = some r := H
              have A18 := Aside0.mk A180
              clear A180
              replace H := Option.bind_eq_some_iff.mp H
              obtain ⟨t121, A190, H⟩ := H
              replace H : (some (t120 == t121)) = some r := H
              have A19 := Aside0.mk A190
              clear A190
              obtain rfl := Option.some.inj H
              go_enter Try.func3, Try.ntmps3
              go_wp2_with (first | ((with_reducible refine gate_callee (f := 8) rfl ?_); refine goesL_ (some 11) rfl rfl Try.func8 (by kernel_rfl) rfl #[.int .i64 a0] rfl (by (try simp only [List.map_toArray, List.map_cons, List.map_nil]); first | done | rfl | (simp only [List.length_drop, List.length_take]; rfl)) ?_; (with_reducible refine (num_Narrow.calls a0 t109 t110 _ A3.out).mono ?_); rintro e w' ⟨rfl, ⟨nd, rfl⟩⟩; refine ⟨_, rfl, ?_⟩) | ((with_reducible refine gate_callee (f := 9) rfl ?_); refine goesL_ (some 16) rfl rfl Try.func9 (by kernel_rfl) rfl #[.int .i64 a0] rfl (by (try simp only [List.map_toArray, List.map_cons, List.map_nil]); first | done | rfl | (simp only [List.length_drop, List.length_take]; rfl)) ?_; (with_reducible refine (instarref01_Narrow.calls a0 t111 t112 _ A4.out).mono ?_); rintro e w' ⟨rfl, ⟨nd, rfl⟩⟩; refine ⟨_, rfl, ?_⟩) | ((with_reducible refine gate_callee (f := 10) rfl ?_); refine goesL_ (some 19) rfl rfl Try.func10 (by kernel_rfl) rfl #[] rfl (by (try simp only [List.map_toArray, List.map_cons, List.map_nil]); first | done | rfl | (simp only [List.length_drop, List.length_take]; rfl)) ?_; (with_reducible refine (instarlaw01_alive.calls  true _ A5.out).mono ?_); rintro e w20 ⟨rfl, hb⟩; refine ⟨_, rfl, ?_⟩; have n0_ := Aside0.mk (below_step (by repeat (first | (with_reducible first | exact HB.out | apply below_alloc | apply pw_below_drewN | apply below_drew1) | exact HB.out)) hb); clear HB; have HB := n0_; clear n0_; (try clear hb); (try clear hb2); (try clear hk); (try clear hi)) | (go_at_call 11; (with_reducible refine (num_Zig.calls a0 t114 _ A9.out).mono ?_); rintro e w' ⟨rfl, ⟨nd, rfl⟩⟩) | (go_at_call 12; (with_reducible refine (instarref01_Zig.calls a0 t115 _ A10.out).mono ?_); rintro e w' ⟨rfl, ⟨nd, rfl⟩⟩) | (go_at_call 13; (with_reducible refine (num_Zag.calls a1 t116 _ A12.out).mono ?_); rintro e w' ⟨rfl, ⟨nd, rfl⟩⟩) | (go_at_call 14; (with_reducible refine (instarref01_Zag.calls a1 t117 _ A13.out).mono ?_); rintro e w' ⟨rfl, ⟨nd, rfl⟩⟩) | (go_at_call 15; (with_reducible refine (num_Flip.calls a0 t118 _ A15.out).mono ?_); rintro e w' ⟨rfl, ⟨nd, rfl⟩⟩) | (go_at_call 16; (with_reducible refine (instarref01_Flip.calls a0 t119 _ A16.out).mono ?_); rintro e w' ⟨rfl, ⟨nd, rfl⟩⟩) | (go_at_call 17; (with_reducible refine (num_Unflip.calls a1 t120 _ A18.out).mono ?_); rintro e w' ⟨rfl, ⟨nd, rfl⟩⟩) | (go_at_call 18; (with_reducible refine (instarref01_Unflip.calls a1 t121 _ A19.out).mono ?_); rintro e w' ⟨rfl, ⟨nd, rfl⟩⟩))
              go_ret
              exact ⟨by first | rfl | (simp [errW_none, errW_some] <;> rfl) | (simp [*, errW_none, errW_some] <;> rfl), by repeat (first | (with_reducible first | exact HB.out | apply below_alloc | apply pw_below_drewN | apply below_drew1) | exact HB.out)⟩
            · rw [if_neg c17] at H
              have c17b0 : (t118 == t119) = false := beq_eq_false_iff_ne.mpr c17
              have c17b1 : (t118 != t119) = true := bne_iff_ne.mpr c17
              obtain rfl := Option.some.inj H
              go_enter Try.func3, Try.ntmps3
              go_wp2_with (first | ((with_reducible refine gate_callee (f := 8) rfl ?_); refine goesL_ (some 11) rfl rfl Try.func8 (by kernel_rfl) rfl #[.int .i64 a0] rfl (by (try simp only [List.map_toArray, List.map_cons, List.map_nil]); first | done | rfl | (simp only [List.length_drop, List.length_take]; rfl)) ?_; (with_reducible refine (num_Narrow.calls a0 t109 t110 _ A3.out).mono ?_); rintro e w' ⟨rfl, ⟨nd, rfl⟩⟩; refine ⟨_, rfl, ?_⟩) | ((with_reducible refine gate_callee (f := 9) rfl ?_); refine goesL_ (some 16) rfl rfl Try.func9 (by kernel_rfl) rfl #[.int .i64 a0] rfl (by (try simp only [List.map_toArray, List.map_cons, List.map_nil]); first | done | rfl | (simp only [List.length_drop, List.length_take]; rfl)) ?_; (with_reducible refine (instarref01_Narrow.calls a0 t111 t112 _ A4.out).mono ?_); rintro e w' ⟨rfl, ⟨nd, rfl⟩⟩; refine ⟨_, rfl, ?_⟩) | ((with_reducible refine gate_callee (f := 10) rfl ?_); refine goesL_ (some 19) rfl rfl Try.func10 (by kernel_rfl) rfl #[] rfl (by (try simp only [List.map_toArray, List.map_cons, List.map_nil]); first | done | rfl | (simp only [List.length_drop, List.length_take]; rfl)) ?_; (with_reducible refine (instarlaw01_alive.calls  true _ A5.out).mono ?_); rintro e w21 ⟨rfl, hb⟩; refine ⟨_, rfl, ?_⟩; have n0_ := Aside0.mk (below_step (by repeat (first | (with_reducible first | exact HB.out | apply below_alloc | apply pw_below_drewN | apply below_drew1) | exact HB.out)) hb); clear HB; have HB := n0_; clear n0_; (try clear hb); (try clear hb2); (try clear hk); (try clear hi)) | (go_at_call 11; (with_reducible refine (num_Zig.calls a0 t114 _ A9.out).mono ?_); rintro e w' ⟨rfl, ⟨nd, rfl⟩⟩) | (go_at_call 12; (with_reducible refine (instarref01_Zig.calls a0 t115 _ A10.out).mono ?_); rintro e w' ⟨rfl, ⟨nd, rfl⟩⟩) | (go_at_call 13; (with_reducible refine (num_Zag.calls a1 t116 _ A12.out).mono ?_); rintro e w' ⟨rfl, ⟨nd, rfl⟩⟩) | (go_at_call 14; (with_reducible refine (instarref01_Zag.calls a1 t117 _ A13.out).mono ?_); rintro e w' ⟨rfl, ⟨nd, rfl⟩⟩) | (go_at_call 15; (with_reducible refine (num_Flip.calls a0 t118 _ A15.out).mono ?_); rintro e w' ⟨rfl, ⟨nd, rfl⟩⟩) | (go_at_call 16; (with_reducible refine (instarref01_Flip.calls a0 t119 _ A16.out).mono ?_); rintro e w' ⟨rfl, ⟨nd, rfl⟩⟩))
              go_ret
              exact ⟨by first | rfl | (simp [errW_none, errW_some] <;> rfl) | (simp [*, errW_none, errW_some] <;> rfl), by repeat (first | (with_reducible first | exact HB.out | apply below_alloc | apply pw_below_drewN | apply below_drew1) | exact HB.out)⟩
          · rw [if_neg c14] at H
            have c14b0 : (t116 == t117) = false := beq_eq_false_iff_ne.mpr c14
            have c14b1 : (t116 != t117) = true := bne_iff_ne.mpr c14
            obtain rfl := Option.some.inj H
            go_enter Try.func3, Try.ntmps3
            go_wp2_with (first | ((with_reducible refine gate_callee (f := 8) rfl ?_); refine goesL_ (some 11) rfl rfl Try.func8 (by kernel_rfl) rfl #[.int .i64 a0] rfl (by (try simp only [List.map_toArray, List.map_cons, List.map_nil]); first | done | rfl | (simp only [List.length_drop, List.length_take]; rfl)) ?_; (with_reducible refine (num_Narrow.calls a0 t109 t110 _ A3.out).mono ?_); rintro e w' ⟨rfl, ⟨nd, rfl⟩⟩; refine ⟨_, rfl, ?_⟩) | ((with_reducible refine gate_callee (f := 9) rfl ?_); refine goesL_ (some 16) rfl rfl Try.func9 (by kernel_rfl) rfl #[.int .i64 a0] rfl (by (try simp only [List.map_toArray, List.map_cons, List.map_nil]); first | done | rfl | (simp only [List.length_drop, List.length_take]; rfl)) ?_; (with_reducible refine (instarref01_Narrow.calls a0 t111 t112 _ A4.out).mono ?_); rintro e w' ⟨rfl, ⟨nd, rfl⟩⟩; refine ⟨_, rfl, ?_⟩) | ((with_reducible refine gate_callee (f := 10) rfl ?_); refine goesL_ (some 19) rfl rfl Try.func10 (by kernel_rfl) rfl #[] rfl (by (try simp only [List.map_toArray, List.map_cons, List.map_nil]); first | done | rfl | (simp only [List.length_drop, List.length_take]; rfl)) ?_; (with_reducible refine (instarlaw01_alive.calls  true _ A5.out).mono ?_); rintro e w22 ⟨rfl, hb⟩; refine ⟨_, rfl, ?_⟩; have n0_ := Aside0.mk (below_step (by repeat (first | (with_reducible first | exact HB.out | apply below_alloc | apply pw_below_drewN | apply below_drew1) | exact HB.out)) hb); clear HB; have HB := n0_; clear n0_; (try clear hb); (try clear hb2); (try clear hk); (try clear hi)) | (go_at_call 11; (with_reducible refine (num_Zig.calls a0 t114 _ A9.out).mono ?_); rintro e w' ⟨rfl, ⟨nd, rfl⟩⟩) | (go_at_call 12; (with_reducible refine (instarref01_Zig.calls a0 t115 _ A10.out).mono ?_); rintro e w' ⟨rfl, ⟨nd, rfl⟩⟩) | (go_at_call 13; (with_reducible refine (num_Zag.calls a1 t116 _ A12.out).mono ?_); rintro e w' ⟨rfl, ⟨nd, rfl⟩⟩) | (go_at_call 14; (with_reducible refine (instarref01_Zag.calls a1 t117 _ A13.out).mono ?_); rintro e w' ⟨rfl, ⟨nd, rfl⟩⟩))
            go_ret
            exact ⟨by first | rfl | (simp [errW_none, errW_some] <;> rfl) | (simp [*, errW_none, errW_some] <;> rfl), by repeat (first | (with_reducible first | exact HB.out | apply below_alloc | apply pw_below_drewN | apply below_drew1) | exact HB.out)⟩
        · rw [if_neg c11] at H
          have c11b0 : (t114 == t115) = false := beq_eq_false_iff_ne.mpr c11
          have c11b1 : (t114 != t115) = true := bne_iff_ne.mpr c11
          obtain rfl := Option.some.inj H
          go_enter Try.func3, Try.ntmps3
          go_wp2_with (first | ((with_reducible refine gate_callee (f := 8) rfl ?_); refine goesL_ (some 11) rfl rfl Try.func8 (by kernel_rfl) rfl #[.int .i64 a0] rfl (by (try simp only [List.map_toArray, List.map_cons, List.map_nil]); first | done | rfl | (simp only [List.length_drop, List.length_take]; rfl)) ?_; (with_reducible refine (num_Narrow.calls a0 t109 t110 _ A3.out).mono ?_); rintro e w' ⟨rfl, ⟨nd, rfl⟩⟩; refine ⟨_, rfl, ?_⟩) | ((with_reducible refine gate_callee (f := 9) rfl ?_); refine goesL_ (some 16) rfl rfl Try.func9 (by kernel_rfl) rfl #[.int .i64 a0] rfl (by (try simp only [List.map_toArray, List.map_cons, List.map_nil]); first | done | rfl | (simp only [List.length_drop, List.length_take]; rfl)) ?_; (with_reducible refine (instarref01_Narrow.calls a0 t111 t112 _ A4.out).mono ?_); rintro e w' ⟨rfl, ⟨nd, rfl⟩⟩; refine ⟨_, rfl, ?_⟩) | ((with_reducible refine gate_callee (f := 10) rfl ?_); refine goesL_ (some 19) rfl rfl Try.func10 (by kernel_rfl) rfl #[] rfl (by (try simp only [List.map_toArray, List.map_cons, List.map_nil]); first | done | rfl | (simp only [List.length_drop, List.length_take]; rfl)) ?_; (with_reducible refine (instarlaw01_alive.calls  true _ A5.out).mono ?_); rintro e w23 ⟨rfl, hb⟩; refine ⟨_, rfl, ?_⟩; have n0_ := Aside0.mk (below_step (by repeat (first | (with_reducible first | exact HB.out | apply below_alloc | apply pw_below_drewN | apply below_drew1) | exact HB.out)) hb); clear HB; have HB := n0_; clear n0_; (try clear hb); (try clear hb2); (try clear hk); (try clear hi)) | (go_at_call 11; (with_reducible refine (num_Zig.calls a0 t114 _ A9.out).mono ?_); rintro e w' ⟨rfl, ⟨nd, rfl⟩⟩) | (go_at_call 12; (with_reducible refine (instarref01_Zig.calls a0 t115 _ A10.out).mono ?_); rintro e w' ⟨rfl, ⟨nd, rfl⟩⟩))
          go_ret
          exact ⟨by first | rfl | (simp [errW_none, errW_some] <;> rfl) | (simp [*, errW_none, errW_some] <;> rfl), by repeat (first | (with_reducible first | exact HB.out | apply below_alloc | apply pw_below_drewN | apply below_drew1) | exact HB.out)⟩
      · rw [if_neg c8] at H
        have c8b0 : (t110 == t112) = false := beq_eq_false_iff_ne.mpr c8
        have c8b1 : (t110 != t112) = true := bne_iff_ne.mpr c8
        obtain rfl := Option.some.inj H
        go_enter Try.func3, Try.ntmps3
        go_wp2_with (first | ((with_reducible refine gate_callee (f := 8) rfl ?_); refine goesL_ (some 11) rfl rfl Try.func8 (by kernel_rfl) rfl #[.int .i64 a0] rfl (by (try simp only [List.map_toArray, List.map_cons, List.map_nil]); first | done | rfl | (simp only [List.length_drop, List.length_take]; rfl)) ?_; (with_reducible refine (num_Narrow.calls a0 t109 t110 _ A3.out).mono ?_); rintro e w' ⟨rfl, ⟨nd, rfl⟩⟩; refine ⟨_, rfl, ?_⟩) | ((with_reducible refine gate_callee (f := 9) rfl ?_); refine goesL_ (some 16) rfl rfl Try.func9 (by kernel_rfl) rfl #[.int .i64 a0] rfl (by (try simp only [List.map_toArray, List.map_cons, List.map_nil]); first | done | rfl | (simp only [List.length_drop, List.length_take]; rfl)) ?_; (with_reducible refine (instarref01_Narrow.calls a0 t111 t112 _ A4.out).mono ?_); rintro e w' ⟨rfl, ⟨nd, rfl⟩⟩; refine ⟨_, rfl, ?_⟩) | ((with_reducible refine gate_callee (f := 10) rfl ?_); refine goesL_ (some 19) rfl rfl Try.func10 (by kernel_rfl) rfl #[] rfl (by (try simp only [List.map_toArray, List.map_cons, List.map_nil]); first | done | rfl | (simp only [List.length_drop, List.length_take]; rfl)) ?_; (with_reducible refine (instarlaw01_alive.calls  true _ A5.out).mono ?_); rintro e w24 ⟨rfl, hb⟩; refine ⟨_, rfl, ?_⟩; have n0_ := Aside0.mk (below_step (by repeat (first | (with_reducible first | exact HB.out | apply below_alloc | apply pw_below_drewN | apply below_drew1) | exact HB.out)) hb); clear HB; have HB := n0_; clear n0_; (try clear hb); (try clear hb2); (try clear hk); (try clear hi)))
        go_ret
        exact ⟨by first | rfl | (simp [errW_none, errW_some] <;> rfl) | (simp [*, errW_none, errW_some] <;> rfl), by repeat (first | (with_reducible first | exact HB.out | apply below_alloc | apply pw_below_drewN | apply below_drew1) | exact HB.out)⟩
    · rw [if_neg c7] at H
      have c7b0 : (t109 == t111) = false := beq_eq_false_iff_ne.mpr c7
      have c7b1 : (t109 != t111) = true := bne_iff_ne.mpr c7
      obtain rfl := Option.some.inj H
      go_enter Try.func3, Try.ntmps3
      go_wp2_with (first | ((with_reducible refine gate_callee (f := 8) rfl ?_); refine goesL_ (some 11) rfl rfl Try.func8 (by kernel_rfl) rfl #[.int .i64 a0] rfl (by (try simp only [List.map_toArray, List.map_cons, List.map_nil]); first | done | rfl | (simp only [List.length_drop, List.length_take]; rfl)) ?_; (with_reducible refine (num_Narrow.calls a0 t109 t110 _ A3.out).mono ?_); rintro e w' ⟨rfl, ⟨nd, rfl⟩⟩; refine ⟨_, rfl, ?_⟩) | ((with_reducible refine gate_callee (f := 9) rfl ?_); refine goesL_ (some 16) rfl rfl Try.func9 (by kernel_rfl) rfl #[.int .i64 a0] rfl (by (try simp only [List.map_toArray, List.map_cons, List.map_nil]); first | done | rfl | (simp only [List.length_drop, List.length_take]; rfl)) ?_; (with_reducible refine (instarref01_Narrow.calls a0 t111 t112 _ A4.out).mono ?_); rintro e w' ⟨rfl, ⟨nd, rfl⟩⟩; refine ⟨_, rfl, ?_⟩) | ((with_reducible refine gate_callee (f := 10) rfl ?_); refine goesL_ (some 19) rfl rfl Try.func10 (by kernel_rfl) rfl #[] rfl (by (try simp only [List.map_toArray, List.map_cons, List.map_nil]); first | done | rfl | (simp only [List.length_drop, List.length_take]; rfl)) ?_; (with_reducible refine (instarlaw01_alive.calls  true _ A5.out).mono ?_); rintro e w25 ⟨rfl, hb⟩; refine ⟨_, rfl, ?_⟩; have n0_ := Aside0.mk (below_step (by repeat (first | (with_reducible first | exact HB.out | apply below_alloc | apply pw_below_drewN | apply below_drew1) | exact HB.out)) hb); clear HB; have HB := n0_; clear n0_; (try clear hb); (try clear hb2); (try clear hk); (try clear hi)))
      go_ret
      exact ⟨by first | rfl | (simp [errW_none, errW_some] <;> rfl) | (simp [*, errW_none, errW_some] <;> rfl), by repeat (first | (with_reducible first | exact HB.out | apply below_alloc | apply pw_below_drewN | apply below_drew1) | exact HB.out)⟩
  · replace c6 := Bool.eq_false_iff.mpr c6
    subst c6
    have H1 : (some false) = some r := by rw [if_neg (show ¬ (false = true) by decide)] at H; exact H
    clear H
    have H := H1
    clear H1
    obtain rfl := Option.some.inj H
    go_enter Try.func3, Try.ntmps3
    go_wp2_with (first | ((with_reducible refine gate_callee (f := 8) rfl ?_); refine goesL_ (some 11) rfl rfl Try.func8 (by kernel_rfl) rfl #[.int .i64 a0] rfl (by (try simp only [List.map_toArray, List.map_cons, List.map_nil]); first | done | rfl | (simp only [List.length_drop, List.length_take]; rfl)) ?_; (with_reducible refine (num_Narrow.calls a0 t109 t110 _ A3.out).mono ?_); rintro e w' ⟨rfl, ⟨nd, rfl⟩⟩; refine ⟨_, rfl, ?_⟩) | ((with_reducible refine gate_callee (f := 9) rfl ?_); refine goesL_ (some 16) rfl rfl Try.func9 (by kernel_rfl) rfl #[.int .i64 a0] rfl (by (try simp only [List.map_toArray, List.map_cons, List.map_nil]); first | done | rfl | (simp only [List.length_drop, List.length_take]; rfl)) ?_; (with_reducible refine (instarref01_Narrow.calls a0 t111 t112 _ A4.out).mono ?_); rintro e w' ⟨rfl, ⟨nd, rfl⟩⟩; refine ⟨_, rfl, ?_⟩) | ((with_reducible refine gate_callee (f := 10) rfl ?_); refine goesL_ (some 19) rfl rfl Try.func10 (by kernel_rfl) rfl #[] rfl (by (try simp only [List.map_toArray, List.map_cons, List.map_nil]); first | done | rfl | (simp only [List.length_drop, List.length_take]; rfl)) ?_; (with_reducible refine (instarlaw01_alive.calls  false _ A5.out).mono ?_); rintro e w26 ⟨rfl, hb⟩; refine ⟨_, rfl, ?_⟩; have n0_ := Aside0.mk (below_step (by repeat (first | (with_reducible first | exact HB.out | apply below_alloc | apply pw_below_drewN | apply below_drew1) | exact HB.out)) hb); clear HB; have HB := n0_; clear n0_; (try clear hb); (try clear hb2); (try clear hk); (try clear hi)))
    go_ret
    exact ⟨by first | rfl | (simp [errW_none, errW_some] <;> rfl) | (simp [*, errW_none, errW_some] <;> rfl), by repeat (first | (with_reducible first | exact HB.out | apply below_alloc | apply pw_below_drewN | apply below_drew1) | exact HB.out)⟩

/-- THE ONE PURE STATEMENT of instarlaw01_NumNarrow: yours. -/
def instarlaw01_NumNarrow.Pure : Prop := ∀ (a0 : Int) (a1 : Int), (Lit.int .i64 a0).wf = true → (Lit.int .u64 a1).wf = true → instarlaw01_NumNarrow.f a0 a1 = some true
theorem instarlaw01_NumNarrow.walk (P : instarlaw01_NumNarrow.Pure) (a0 : Int) (a1 : Int) (w : World) (w0 : (Lit.int .i64 a0).wf = true) (w1 : (Lit.int .u64 a1).wf = true) :
    Calls Try.prog 3 #[.int .i64 a0, .int .u64 a1] w fun e w' => e = .returned (.bool true) ∧ Below w.heap.size w w' := by
  have h := P a0 a1 w0 w1
  refine (instarlaw01_NumNarrow.calls a0 a1 true w h).mono ?_
  rintro e w' ⟨rfl, hd⟩
  exact ⟨rfl, hd⟩

/-! ### instarref01_Add: function 20 -/
def instarref01_Add.f (a0 : Int) (a1 : Int) : Option (Int × Int) := if a1 > 0 then (if a0 > (wrap64 (9223372036854775807 - a1)) then (some (0, 11)) else (if a1 < 0 then (if a0 < (wrap64 ((-9223372036854775808) - a1)) then (some (0, 11)) else (some (wrap64 (a0 + a1), 0))) else (some (wrap64 (a0 + a1), 0)))) else (if a1 < 0 then (if a0 < (wrap64 ((-9223372036854775808) - a1)) then (some (0, 11)) else (some (wrap64 (a0 + a1), 0))) else (some (wrap64 (a0 + a1), 0)))
set_option maxHeartbeats 8000000 in
set_option maxRecDepth 100000 in
theorem instarref01_Add.calls (a0 : Int) (a1 : Int) (r1 : Int) (r2 : Int) (w : World) (h : instarref01_Add.f a0 a1 = some (r1, r2)) :
    Calls Try.prog 20 #[.int .i64 a0, .int .i64 a1] w fun e w' => e = .returned (.tuple #[.int .i64 r1, .int .i64 r2]) ∧ Drawn0 w w' := by
  have H : (if a1 > 0 then (if a0 > (wrap64 (9223372036854775807 - a1)) then (some (0, 11)) else (if a1 < 0 then (if a0 < (wrap64 ((-9223372036854775808) - a1)) then (some (0, 11)) else (some (wrap64 (a0 + a1), 0))) else (some (wrap64 (a0 + a1), 0)))) else (if a1 < 0 then (if a0 < (wrap64 ((-9223372036854775808) - a1)) then (some (0, 11)) else (some (wrap64 (a0 + a1), 0))) else (some (wrap64 (a0 + a1), 0)))) = some (r1, r2) := h
  clear h
  by_cases c3 : a1 > 0
  · rw [if_pos c3] at H
    have c3b0 : decide (0 < a1) = true := decide_eq_true c3
    clear c3
    by_cases c4 : a0 > (wrap64 (9223372036854775807 - a1))
    · rw [if_pos c4] at H
      have c4b0 : decide ((wrap64 (9223372036854775807 - a1)) < a0) = true := decide_eq_true c4
      clear c4
      simp only [Option.some.injEq, Prod.mk.injEq] at H
      obtain ⟨rfl, rfl⟩ := H
      go_enter Try.func20, Try.ntmps20
      go_wp2
      go_ret2
      exact ⟨by first | rfl | (simp; done) | (simp [*]; done), by repeat (first | exact Drawn0.refl _ | apply Drawn0.step)⟩
    · rw [if_neg c4] at H
      have c4b0 : decide ((wrap64 (9223372036854775807 - a1)) < a0) = false := decide_eq_false c4
      clear c4
      by_cases c5 : a1 < 0
      · rw [if_pos c5] at H
        have c5b0 : decide (a1 < 0) = true := decide_eq_true c5
        clear c5
        by_cases c6 : a0 < (wrap64 ((-9223372036854775808) - a1))
        · rw [if_pos c6] at H
          have c6b0 : decide (a0 < (wrap64 ((-9223372036854775808) - a1))) = true := decide_eq_true c6
          clear c6
          simp only [Option.some.injEq, Prod.mk.injEq] at H
          obtain ⟨rfl, rfl⟩ := H
          go_enter Try.func20, Try.ntmps20
          go_wp2
          go_ret2
          exact ⟨by first | rfl | (simp; done) | (simp [*]; done), by repeat (first | exact Drawn0.refl _ | apply Drawn0.step)⟩
        · rw [if_neg c6] at H
          have c6b0 : decide (a0 < (wrap64 ((-9223372036854775808) - a1))) = false := decide_eq_false c6
          clear c6
          simp only [Option.some.injEq, Prod.mk.injEq] at H
          obtain ⟨rfl, rfl⟩ := H
          go_enter Try.func20, Try.ntmps20
          go_wp2
          go_ret2
          exact ⟨by first | rfl | (simp; done) | (simp [*]; done), by repeat (first | exact Drawn0.refl _ | apply Drawn0.step)⟩
      · rw [if_neg c5] at H
        have c5b0 : decide (a1 < 0) = false := decide_eq_false c5
        clear c5
        simp only [Option.some.injEq, Prod.mk.injEq] at H
        obtain ⟨rfl, rfl⟩ := H
        go_enter Try.func20, Try.ntmps20
        go_wp2
        go_ret2
        exact ⟨by first | rfl | (simp; done) | (simp [*]; done), by repeat (first | exact Drawn0.refl _ | apply Drawn0.step)⟩
  · rw [if_neg c3] at H
    have c3b0 : decide (0 < a1) = false := decide_eq_false c3
    clear c3
    by_cases c7 : a1 < 0
    · rw [if_pos c7] at H
      have c7b0 : decide (a1 < 0) = true := decide_eq_true c7
      clear c7
      by_cases c8 : a0 < (wrap64 ((-9223372036854775808) - a1))
      · rw [if_pos c8] at H
        have c8b0 : decide (a0 < (wrap64 ((-9223372036854775808) - a1))) = true := decide_eq_true c8
        clear c8
        simp only [Option.some.injEq, Prod.mk.injEq] at H
        obtain ⟨rfl, rfl⟩ := H
        go_enter Try.func20, Try.ntmps20
        go_wp2
        go_ret2
        exact ⟨by first | rfl | (simp; done) | (simp [*]; done), by repeat (first | exact Drawn0.refl _ | apply Drawn0.step)⟩
      · rw [if_neg c8] at H
        have c8b0 : decide (a0 < (wrap64 ((-9223372036854775808) - a1))) = false := decide_eq_false c8
        clear c8
        simp only [Option.some.injEq, Prod.mk.injEq] at H
        obtain ⟨rfl, rfl⟩ := H
        go_enter Try.func20, Try.ntmps20
        go_wp2
        go_ret2
        exact ⟨by first | rfl | (simp; done) | (simp [*]; done), by repeat (first | exact Drawn0.refl _ | apply Drawn0.step)⟩
    · rw [if_neg c7] at H
      have c7b0 : decide (a1 < 0) = false := decide_eq_false c7
      clear c7
      simp only [Option.some.injEq, Prod.mk.injEq] at H
      obtain ⟨rfl, rfl⟩ := H
      go_enter Try.func20, Try.ntmps20
      go_wp2
      go_ret2
      exact ⟨by first | rfl | (simp; done) | (simp [*]; done), by repeat (first | exact Drawn0.refl _ | apply Drawn0.step)⟩

/-! ### num_Sub: function 21 -/
def num_Sub.f (a0 : Int) (a1 : Int) : Option (Int × Int) := if ((decide ((wrap64 (a0 - a1)) < a0)) == (decide (a1 > 0))) = true then (some (wrap64 (a0 - a1), 0)) else (some (0, 11))
set_option maxHeartbeats 8000000 in
set_option maxRecDepth 100000 in
theorem num_Sub.calls (a0 : Int) (a1 : Int) (r1 : Int) (r2 : Int) (w : World) (h : num_Sub.f a0 a1 = some (r1, r2)) :
    Calls Try.prog 21 #[.int .i64 a0, .int .i64 a1] w fun e w' => e = .returned (.tuple #[.int .i64 r1, .int .i64 r2]) ∧ Drawn0 w w' := by
  have H : (if ((decide ((wrap64 (a0 - a1)) < a0)) == (decide (a1 > 0))) = true then (some (wrap64 (a0 - a1), 0)) else (some (0, 11))) = some (r1, r2) := h
  clear h
  by_cases c3 : ((decide ((wrap64 (a0 - a1)) < a0)) == (decide (a1 > 0))) = true
  · rw [if_pos c3] at H
    have c3b0 : ((decide ((wrap64 (a0 - a1)) < a0)) == (decide (a1 > 0))) = true := c3
    (try (have c3b1 : decide ((decide ((wrap64 (a0 - a1)) < a0)) = (decide (a1 > 0))) = true := by simpa using c3))
    (try (have c3b2 : ((decide ((wrap64 (a0 - a1)) < a0)) == (decide (a1 > 0))) = true := by simpa using c3))
    clear c3
    simp only [Option.some.injEq, Prod.mk.injEq] at H
    obtain ⟨rfl, rfl⟩ := H
    go_enter Try.func21, Try.ntmps21
    go_wp2
    go_ret2
    exact ⟨by first | rfl | (simp; done) | (simp [*]; done), by repeat (first | exact Drawn0.refl _ | apply Drawn0.step)⟩
  · rw [if_neg c3] at H
    have c3b0 : ((decide ((wrap64 (a0 - a1)) < a0)) == (decide (a1 > 0))) = false := by simpa using c3
    (try (have c3b1 : decide ((decide ((wrap64 (a0 - a1)) < a0)) = (decide (a1 > 0))) = false := by simpa using c3))
    (try (have c3b2 : ((decide ((wrap64 (a0 - a1)) < a0)) == (decide (a1 > 0))) = false := by simpa using c3))
    (try (have c3b3 : ¬ ((decide ((wrap64 (a0 - a1)) < a0)) = (decide (a1 > 0))) := by simpa using c3))
    clear c3
    simp only [Option.some.injEq, Prod.mk.injEq] at H
    obtain ⟨rfl, rfl⟩ := H
    go_enter Try.func21, Try.ntmps21
    go_wp2
    go_ret2
    exact ⟨by first | rfl | (simp; done) | (simp [*]; done), by repeat (first | exact Drawn0.refl _ | apply Drawn0.step)⟩

/-! ### instarref01_Sub: function 22 -/
def instarref01_Sub.f (a0 : Int) (a1 : Int) : Option (Int × Int) := if a1 < 0 then (if a0 > (wrap64 (9223372036854775807 + a1)) then (some (0, 11)) else (if a1 > 0 then (if a0 < (wrap64 ((-9223372036854775808) + a1)) then (some (0, 11)) else (some (wrap64 (a0 - a1), 0))) else (some (wrap64 (a0 - a1), 0)))) else (if a1 > 0 then (if a0 < (wrap64 ((-9223372036854775808) + a1)) then (some (0, 11)) else (some (wrap64 (a0 - a1), 0))) else (some (wrap64 (a0 - a1), 0)))
set_option maxHeartbeats 8000000 in
set_option maxRecDepth 100000 in
theorem instarref01_Sub.calls (a0 : Int) (a1 : Int) (r1 : Int) (r2 : Int) (w : World) (h : instarref01_Sub.f a0 a1 = some (r1, r2)) :
    Calls Try.prog 22 #[.int .i64 a0, .int .i64 a1] w fun e w' => e = .returned (.tuple #[.int .i64 r1, .int .i64 r2]) ∧ Drawn0 w w' := by
  have H : (if a1 < 0 then (if a0 > (wrap64 (9223372036854775807 + a1)) then (some (0, 11)) else (if a1 > 0 then (if a0 < (wrap64 ((-9223372036854775808) + a1)) then (some (0, 11)) else (some (wrap64 (a0 - a1), 0))) else (some (wrap64 (a0 - a1), 0)))) else (if a1 > 0 then (if a0 < (wrap64 ((-9223372036854775808) + a1)) then (some (0, 11)) else (some (wrap64 (a0 - a1), 0))) else (some (wrap64 (a0 - a1), 0)))) = some (r1, r2) := h
  clear h
  by_cases c3 : a1 < 0
  · rw [if_pos c3] at H
    have c3b0 : decide (a1 < 0) = true := decide_eq_true c3
    clear c3
    by_cases c4 : a0 > (wrap64 (9223372036854775807 + a1))
    · rw [if_pos c4] at H
      have c4b0 : decide ((wrap64 (9223372036854775807 + a1)) < a0) = true := decide_eq_true c4
      clear c4
      simp only [Option.some.injEq, Prod.mk.injEq] at H
      obtain ⟨rfl, rfl⟩ := H
      go_enter Try.func22, Try.ntmps22
      go_wp2
      go_ret2
      exact ⟨by first | rfl | (simp; done) | (simp [*]; done), by repeat (first | exact Drawn0.refl _ | apply Drawn0.step)⟩
    · rw [if_neg c4] at H
      have c4b0 : decide ((wrap64 (9223372036854775807 + a1)) < a0) = false := decide_eq_false c4
      clear c4
      by_cases c5 : a1 > 0
      · rw [if_pos c5] at H
        have c5b0 : decide (0 < a1) = true := decide_eq_true c5
        clear c5
        by_cases c6 : a0 < (wrap64 ((-9223372036854775808) + a1))
        · rw [if_pos c6] at H
          have c6b0 : decide (a0 < (wrap64 ((-9223372036854775808) + a1))) = true := decide_eq_true c6
          clear c6
          simp only [Option.some.injEq, Prod.mk.injEq] at H
          obtain ⟨rfl, rfl⟩ := H
          go_enter Try.func22, Try.ntmps22
          go_wp2
          go_ret2
          exact ⟨by first | rfl | (simp; done) | (simp [*]; done), by repeat (first | exact Drawn0.refl _ | apply Drawn0.step)⟩
        · rw [if_neg c6] at H
          have c6b0 : decide (a0 < (wrap64 ((-9223372036854775808) + a1))) = false := decide_eq_false c6
          clear c6
          simp only [Option.some.injEq, Prod.mk.injEq] at H
          obtain ⟨rfl, rfl⟩ := H
          go_enter Try.func22, Try.ntmps22
          go_wp2
          go_ret2
          exact ⟨by first | rfl | (simp; done) | (simp [*]; done), by repeat (first | exact Drawn0.refl _ | apply Drawn0.step)⟩
      · rw [if_neg c5] at H
        have c5b0 : decide (0 < a1) = false := decide_eq_false c5
        clear c5
        simp only [Option.some.injEq, Prod.mk.injEq] at H
        obtain ⟨rfl, rfl⟩ := H
        go_enter Try.func22, Try.ntmps22
        go_wp2
        go_ret2
        exact ⟨by first | rfl | (simp; done) | (simp [*]; done), by repeat (first | exact Drawn0.refl _ | apply Drawn0.step)⟩
  · rw [if_neg c3] at H
    have c3b0 : decide (a1 < 0) = false := decide_eq_false c3
    clear c3
    by_cases c7 : a1 > 0
    · rw [if_pos c7] at H
      have c7b0 : decide (0 < a1) = true := decide_eq_true c7
      clear c7
      by_cases c8 : a0 < (wrap64 ((-9223372036854775808) + a1))
      · rw [if_pos c8] at H
        have c8b0 : decide (a0 < (wrap64 ((-9223372036854775808) + a1))) = true := decide_eq_true c8
        clear c8
        simp only [Option.some.injEq, Prod.mk.injEq] at H
        obtain ⟨rfl, rfl⟩ := H
        go_enter Try.func22, Try.ntmps22
        go_wp2
        go_ret2
        exact ⟨by first | rfl | (simp; done) | (simp [*]; done), by repeat (first | exact Drawn0.refl _ | apply Drawn0.step)⟩
      · rw [if_neg c8] at H
        have c8b0 : decide (a0 < (wrap64 ((-9223372036854775808) + a1))) = false := decide_eq_false c8
        clear c8
        simp only [Option.some.injEq, Prod.mk.injEq] at H
        obtain ⟨rfl, rfl⟩ := H
        go_enter Try.func22, Try.ntmps22
        go_wp2
        go_ret2
        exact ⟨by first | rfl | (simp; done) | (simp [*]; done), by repeat (first | exact Drawn0.refl _ | apply Drawn0.step)⟩
    · rw [if_neg c7] at H
      have c7b0 : decide (0 < a1) = false := decide_eq_false c7
      clear c7
      simp only [Option.some.injEq, Prod.mk.injEq] at H
      obtain ⟨rfl, rfl⟩ := H
      go_enter Try.func22, Try.ntmps22
      go_wp2
      go_ret2
      exact ⟨by first | rfl | (simp; done) | (simp [*]; done), by repeat (first | exact Drawn0.refl _ | apply Drawn0.step)⟩

end Go.Proofs.Ytjgapipknabgiaa.Hp
