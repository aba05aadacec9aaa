/- Alike: have two lists of columns the same names and kinds; for every two lists. -/
import Derived.Test.YtkggdnnhgafopaaDoorSch8
set_option linter.unusedVariables false
set_option linter.unusedSimpArgs false
namespace Go.Proofs.YtkggdnnhgafopaaDoor
open Go.RowKit Go.Lib Go.Shelf Go.Proofs.YtkggdnnhgafopaaDoorW.PrintWords Go.Proofs.YtkggdnnhgafopaaDoorW.PrintLast Go.Proofs.YtkggdnnhgafopaaDoorW.PrintMore Go.Proofs.YtkggdnnhgafopaaDoor.Kp Go.Proofs.YtkggdnnhgafopaaDoor.Gp
def like1 (x y : S25) : Bool := x.f1.toList == y.f1.toList && x.f2 == y.f2
def alikeB (l m : List S25) : Bool := decide (l.length = m.length) && (List.range l.length).all (fun (i : Nat) => like1 (rd_T25 l (i : Int)) (rd_T25 m (i : Int)))
set_option maxRecDepth 100000 in
set_option maxHeartbeats 4000000 in
theorem like_one (x y : S25) (W : World) : Calls Tryd.prog 47 #[.agg #[.int .i64 x.f0, .string x.f1, .int .i64 x.f2], .agg #[.int .i64 y.f0, .string y.f1, .int .i64 y.f2]] W fun e w' => e = .returned (.bool (like1 x y)) ∧ Below W.heap.size W w' := by
  have hl : like1 x y = (x.f1.toList == y.f1.toList && x.f2 == y.f2) := rfl
  rw [hl]
  have hB := Lib.hid (((Below.refl W.heap.size W).alloc (Nat.le_refl _) (.cells #[.int .i64 x.f0, .string x.f1, .int .i64 x.f2] 25)).alloc (by simp) (.cells #[.int .i64 y.f0, .string y.f1, .int .i64 y.f2] 25))
  clear hl
  cases h1 : (x.f1.toList == y.f1.toList) with
  | true =>
    go_enter Tryd.func47, Tryd.ntmps47
    go_wp2
    go_ret
    exact ⟨by simp_all, hB.out⟩
  | false =>
    go_enter Tryd.func47, Tryd.ntmps47
    go_wp2
    go_ret
    exact ⟨by simp_all, hB.out⟩
theorem e47 : ∀ args w, (callFunc 47 args).run Tryd.prog w = .ok (.enter 47 args) w := enters_of Tryd.func47 (by kernel_rfl) rfl
theorem two_cells {W : World} {A : Option Addr} {l : List S25} (hC : Kd.C k25 W A l.length l) (hl : 0 < l.length) : ∃ b o, A = some ⟨b, o, none⟩ ∧ b < W.heap.size ∧ ∀ i : Nat, i < l.length →
    W.cell? ⟨b, o + i * 3, none⟩ = some (.int .i64 (rd_T25 l i).f0) ∧ W.cell? ⟨b, o + i * 3 + 1, none⟩ = some (.string (rd_T25 l i).f1) ∧ W.cell? ⟨b, o + i * 3 + 2, none⟩ = some (.int .i64 (rd_T25 l i).f2) := by
  obtain ⟨b, o, h, hb, hc⟩ := cols_at hC hl
  refine ⟨b, o, h, hb, fun i hi => ?_⟩
  have e : l[i]! = rd_T25 l i := by rw [getElem!_pos l i hi]; simp [rd_T25, List.getD, List.getElem?_eq_getElem hi]
  have := hc i hi
  rw [e] at this
  exact ⟨this 0 _ rfl, this 1 _ rfl, this 2 _ rfl⟩
set_option maxRecDepth 100000 in
set_option maxHeartbeats 8000000 in
theorem equal_cols (A0 : Option Addr) (c0 : Nat) (l0 : List S25) (A1 : Option Addr) (c1 : Nat) (l1 : List S25) (w : World) (hr0 : Kd.C k25 w A0 l0.length l0) (hr1 : Kd.C k25 w A1 l1.length l1) (hbig : l0.length < 4611686018427387904) :
    Calls Tryd.prog 46 #[.slice A0 l0.length c0, .slice A1 l1.length c1, .func (.func 47) #[] #[]] w fun e w' => e = .returned (.bool (alikeB l0 l1)) ∧ Below w.heap.size w w' := by
  by_cases hne : l0.length = l1.length
  case neg =>
    have e : alikeB l0 l1 = false := by unfold alikeB; rw [decide_eq_false hne, Bool.false_and]
    rw [e]
    clear hr0 hr1
    have d1 : ((l0.length : Int) != (l1.length : Int)) = true := bne_iff_ne.2 (by omega)
    have d2 : (l0.length == l1.length) = false := beq_eq_false_iff_ne.2 hne
    go_enter Tryd.func46, Tryd.ntmps46
    go_wp2
    go_ret
    exact ⟨rfl, Below.refl _ _⟩
  case pos =>
    obtain ⟨p, hp⟩ : ∃ p : Nat → Bool, p = fun (i : Nat) => like1 (rd_T25 l0 (i : Int)) (rd_T25 l1 (i : Int)) := ⟨_, rfl⟩
    have e : alikeB l0 l1 = (List.range l0.length).all p := by unfold alikeB; rw [decide_eq_true hne, Bool.true_and, hp]
    rw [e]
    have hcell := fun (j : Nat) (hj : j < l0.length) => two_cells hr0 (by omega)
    have hcell1 := fun (j : Nat) (hj : j < l0.length) => two_cells hr1 (show 0 < l1.length by omega)
    have H0 := Lib.hid hcell
    have H1 := Lib.hid hcell1
    clear hcell hcell1 hr0 hr1
    have d1 : ((l0.length : Int) != (l1.length : Int)) = false := bne_eq_false_iff_eq.2 (by omega)
    have d2 : (l0.length == l1.length) = true := beq_iff_eq.2 hne
    have HN := Lib.hid hne
    clear hne
    go_enter Tryd.func46, Tryd.ntmps46
    go_wp2
    go_loopg [17] (l0.length) (fun kq v17 w' => ∃ j : Nat, v17 = .int .i64 j ∧ j ≤ l0.length ∧ kq = l0.length - j ∧ Aside0 ((∀ i, i < j → p i = true) ∧ Below w.heap.size w w'))
    case atStart => exact ⟨0, rfl, by omega, by omega, ⟨fun i hi => absurd hi (Nat.not_lt_zero i), Below.refl _ _⟩⟩
    case round =>
      obtain ⟨j, rfl, hj0, rfl, HA⟩ := hrel
      by_cases hj : j < l0.length
      · have dj : decide ((j : Int) < (l0.length : Int)) = true := decide_eq_true (by omega)
        have hj1 : j < l1.length := by have := HN.out; omega
        obtain ⟨b0, o0, rfl, hb0, q0⟩ := H0.out j hj
        obtain ⟨b1, o1, rfl, hb1, q1⟩ := H1.out j hj
        obtain ⟨s0, s1, s2⟩ := q0 j hj
        obtain ⟨u0, u1, u2⟩ := q1 j hj1
        have hpj : p j = like1 (rd_T25 l0 j) (rd_T25 l1 j) := by rw [hp]
        have hlk := like_one (rd_T25 l0 j) (rd_T25 l1 j)
        rw [← hpj] at hlk
        have hW := HA.out.2
        have a0 := cell_in hW hb0 s0
        have a1 := cell_in hW hb0 s1
        have a2 := cell_in hW hb0 s2
        have v0 := cell_in hW hb1 u0
        have v1 := cell_in hW hb1 u1
        have v2 := cell_in hW hb1 u2
        clear q0 q1 s0 s1 s2 u0 u1 u2 hpj H0 H1 hp
        generalize rd_T25 l0 j = x at *
        generalize rd_T25 l1 j = y at *
        have v0' := Lib.cell?_alloc_some (o := .cells #[.int .i64 x.f0, .string x.f1, .int .i64 x.f2] 25) v0
        have v1' := Lib.cell?_alloc_some (o := .cells #[.int .i64 x.f0, .string x.f1, .int .i64 x.f2] 25) v1
        have v2' := Lib.cell?_alloc_some (o := .cells #[.int .i64 x.f0, .string x.f1, .int .i64 x.f2] 25) v2
        have HW := Lib.hid hW
        have hBB := Lib.hid ((hW.alloc hW.size (.cells #[.int .i64 x.f0, .string x.f1, .int .i64 x.f2] 25)).alloc (by have := hW.size; simp; omega) (.cells #[.int .i64 y.f0, .string y.f1, .int .i64 y.f2] 25))
        clear hW
        have g1 : decide ((0 : Int) ≤ (j : Int)) = true := decide_eq_true (by omega)
        have g2 : decide ((j : Int) < (l1.length : Int)) = true := decide_eq_true (by omega)
        have g3 : (0 : Int) ≤ (j : Int) := by omega
        have g4 : (j : Int) < (l0.length : Int) := by omega
        have g5 : (j : Int) < (l1.length : Int) := by omega
        go_wp2_with fail
        refine (hlk _).mono ?_
        rintro e w3 ⟨rfl, hb3⟩
        have HB3 := Lib.hid (hBB.out.trans (hb3.mono hBB.out.size))
        clear hb3
        cases hpv : p j with
        | true =>
          go_wp2_with fail
          go_roundg (l0.length - (j + 1))
          case measure => omega
          case rel =>
            refine ⟨j + 1, rfl, by omega, rfl, ⟨fun i hi => ?_, HB3.out⟩⟩
            rcases Nat.lt_or_ge i j with h | h
            · exact HA.out.1 i h
            · obtain rfl : i = j := by omega
              exact hpv
        | false =>
          have hall : (List.range l0.length).all p = false := all_not _ _ j hj hpv
          go_wp2_with fail
          go_ret
          exact ⟨by rw [hall]; try rfl, HB3.out⟩
      · have dj : decide ((j : Int) < (l0.length : Int)) = false := decide_eq_false (by omega)
        have hall : (List.range l0.length).all p = true := all_upto _ _ (fun i hi => HA.out.1 i (by omega))
        go_wp2
        go_ret
        exact ⟨by rw [hall]; try rfl, HA.out.2⟩
theorem alike_calls (A0 : Option Addr) (c0 : Nat) (l0 : List S25) (A1 : Option Addr) (c1 : Nat) (l1 : List S25) (w : World) (hr0 : Kd.C k25 w A0 l0.length l0) (hr1 : Kd.C k25 w A1 l1.length l1) (hbig : l0.length < 4611686018427387904) :
    Calls Tryd.prog 26 #[.slice A0 l0.length c0, .slice A1 l1.length c1] w fun e w' => e = .returned (.bool (alikeB l0 l1)) ∧ Below w.heap.size w w' := by
  have h := equal_cols A0 c0 l0 A1 c1 l1 w hr0 hr1 hbig
  clear hr0 hr1
  generalize alikeB l0 l1 = r at *
  go_enter Tryd.func26, Tryd.ntmps26
  go_wp2_with fail
  refine h.mono ?_
  rintro e w' ⟨rfl, hb⟩
  have HB := Lib.hid hb
  clear hb
  go_wp2_with fail
  go_ret
  exact ⟨rfl, HB.out⟩
end Go.Proofs.YtkggdnnhgafopaaDoor
