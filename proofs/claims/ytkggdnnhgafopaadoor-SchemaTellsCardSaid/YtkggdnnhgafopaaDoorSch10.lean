/- The document's text of a schema walked. -/
import Derived.Test.YtkggdnnhgafopaaDoorQ1
import Derived.Test.YtkggdnnhgafopaaDoorPl2
set_option linter.unusedVariables false
set_option linter.unusedSimpArgs false
namespace Go.Proofs.YtkggdnnhgafopaaDoor
open Go.RowKit Go.Lib Go.Shelf Go.Proofs.YtkggdnnhgafopaaDoorW.PrintWords Go.Proofs.YtkggdnnhgafopaaDoorW.PrintLast Go.Proofs.YtkggdnnhgafopaaDoorW.PrintMore Go.Proofs.YtkggdnnhgafopaaDoor.Kp Go.Proofs.YtkggdnnhgafopaaDoor.Gp Go.Proofs.YtkggdnnhgafopaaDoor.Qp
theorem refvname (k : Int) : instarref03_Name.f k = some (vname k) := by
  unfold instarref03_Name.f vname
  by_cases h0 : k = 0
  · subst h0; rfl
  by_cases h1 : k = 1
  · subst h1; rfl
  by_cases h2 : k = 2
  · subst h2; rfl
  by_cases h3 : k = 3
  · subst h3; rfl
  by_cases h4 : k = 4
  · subst h4; rfl
  simp only [if_neg h0, if_neg h1, if_neg h2, if_neg h3, if_neg h4]
def accS (l : List S25) : Nat → ByteArray
  | 0 => ⟨#[]⟩
  | i + 1 => (((if 0 < i then accS l i ++ (⟨#[44, 32]⟩ : ByteArray) else accS l i) ++ (rd_T25 l (i : Int)).f1) ++ (⟨#[32]⟩ : ByteArray)) ++ vname (rd_T25 l (i : Int)).f2
theorem rd_size {l : List S25} (h : ∀ x ∈ l, x.f1.size ≤ 100) (k : Int) : (rd_T25 l k).f1.size ≤ 100 := by
  unfold rd_T25 List.getD
  cases hx : l[k.toNat]? with
  | none => exact Nat.zero_le _
  | some x => exact h x (List.mem_of_getElem? hx)
theorem accS_size (l : List S25) (h : ∀ x ∈ l, x.f1.size ≤ 100) : ∀ i, (accS l i).size ≤ i * 110 := by
  intro i
  induction i with
  | zero => exact Nat.le_refl _
  | succ i ih =>
    have h1 := rd_size h (i : Int)
    have h2 := vname_size (rd_T25 l (i : Int)).f2
    have e1 : (⟨#[44, 32]⟩ : ByteArray).size = 2 := rfl
    have e2 : (⟨#[32]⟩ : ByteArray).size = 1 := rfl
    rw [accS, ByteArray.size_append, ByteArray.size_append, ByteArray.size_append]
    split
    · rw [ByteArray.size_append]; omega
    · omega
set_option maxRecDepth 100000 in
set_option maxHeartbeats 8000000 in
theorem refshow_calls (A0 : Option Addr) (c0 : Nat) (l0 : List S25) (w : World) (hr0 : Kd.C k25 w A0 l0.length l0) (hl : l0.length ≤ 20) (hn : ∀ x ∈ l0, x.f1.size ≤ 100) :
    Calls Tryd.prog 25 #[.slice A0 l0.length c0] w fun e w' => e = .returned (.string (accS l0 l0.length)) ∧ Below w.heap.size w w' := by
  have hcell := fun (j : Nat) (hj : j < l0.length) => two_cells hr0 (by omega)
  have H0 := Lib.hid hcell
  have hnm := fun (k : Int) (W : World) => instarref03_Name.calls k (vname k) W (refvname k)
  clear hcell hr0
  go_enter Tryd.func25, Tryd.ntmps25
  go_wp2
  go_loopg [3, 4] (l0.length) (fun kq v3 v4 w' => ∃ j : Nat, v3 = .string (accS l0 j) ∧ v4 = .int .i64 j ∧ j ≤ l0.length ∧ kq = l0.length - j ∧ Aside0 (Below w.heap.size w w'))
  case atStart => exact ⟨0, rfl, rfl, by omega, by omega, ⟨Below.refl _ _⟩⟩
  case round =>
    obtain ⟨j, rfl, rfl, hj0, rfl, HA⟩ := hrel
    by_cases hj : j < l0.length
    · have dj : decide ((j : Int) < (l0.length : Int)) = true := decide_eq_true (by omega)
      obtain ⟨b0, o0, rfl, hb0, q0⟩ := H0.out j hj
      obtain ⟨s0, s1, s2⟩ := q0 j hj
      have a0 := cell_in HA.out hb0 s0
      have a1 := cell_in HA.out hb0 s1
      have a2 := cell_in HA.out hb0 s2
      have hsz := accS_size l0 hn j
      have hxs := rd_size hn (j : Int)
      have hvs := vname_size (rd_T25 l0 (j : Int)).f2
      have hacc : accS l0 (j + 1) = (((if 0 < j then accS l0 j ++ (⟨#[44, 32]⟩ : ByteArray) else accS l0 j) ++ (rd_T25 l0 (j : Int)).f1) ++ (⟨#[32]⟩ : ByteArray)) ++ vname (rd_T25 l0 (j : Int)).f2 := rfl
      have HACC := Lib.hid hacc
      have hnk := hnm (rd_T25 l0 (j : Int)).f2
      clear q0 s0 s1 s2 H0 hacc hnm
      have HZ := Lib.hid (show (accS l0 j).size ≤ 2200 by have : j * 110 ≤ 20 * 110 := Nat.mul_le_mul_right _ (by omega); omega)
      generalize accS l0 j = acc at *
      generalize rd_T25 l0 (j : Int) = x at *
      generalize hv : vname x.f2 = vn at *
      clear hsz
      have hz := HZ.out
      have k0 : (9223372036854775807 < acc.size + 2) = False := eq_false (by omega)
      have k1 : (9223372036854775807 < acc.size + x.f1.size) = False := eq_false (by omega)
      have k2 : (9223372036854775807 < acc.size + 2 + x.f1.size) = False := eq_false (by omega)
      have k3 : (9223372036854775807 < acc.size + x.f1.size + 1) = False := eq_false (by omega)
      have k4 : (9223372036854775807 < acc.size + 2 + x.f1.size + 1) = False := eq_false (by omega)
      have k5 : (9223372036854775807 < acc.size + x.f1.size + 1 + vn.size) = False := eq_false (by omega)
      have k6 : (9223372036854775807 < acc.size + 2 + x.f1.size + 1 + vn.size) = False := eq_false (by omega)
      have g1 : decide ((0 : Int) ≤ (j : Int)) = true := decide_eq_true (by omega)
      have g3 : (0 : Int) ≤ (j : Int) := by omega
      have g4 : (j : Int) < (l0.length : Int) := by omega
      by_cases h0 : 0 < j
      · have d0 : decide ((0 : Int) < (j : Int)) = true := decide_eq_true (by omega)
        have d0' : decide ((j : Int) > 0) = true := decide_eq_true (by omega)
        go_wp2_with fail
        go_quiet (first | (go_at_call 45; (with_reducible refine (hnk _).mono ?_); rintro e w' ⟨rfl, ⟨nd, rfl⟩⟩; (try first | exact ⟨rfl, _, World.drewN_drewN _ _ _⟩ | exact ⟨rfl, _, Eq.trans (World.drewN_drewN _ _ _) (congrArg (World.drewN _) (Nat.add_assoc _ _ _))⟩)))
        try go_wp2
        go_roundg (l0.length - (j + 1))
        case measure => omega
        case rel =>
          have hA := HACC.out
          rw [if_pos h0] at hA
          exact ⟨j + 1, by rw [hA], rfl, by omega, rfl, ⟨by repeat (first | exact HA.out | apply pw_below_drewN | apply below_drew1)⟩⟩
      · have d0 : decide ((0 : Int) < (j : Int)) = false := decide_eq_false (by omega)
        have d0' : decide ((j : Int) > 0) = false := decide_eq_false (by omega)
        go_wp2_with fail
        go_quiet (first | (go_at_call 45; (with_reducible refine (hnk _).mono ?_); rintro e w' ⟨rfl, ⟨nd, rfl⟩⟩; (try first | exact ⟨rfl, _, World.drewN_drewN _ _ _⟩ | exact ⟨rfl, _, Eq.trans (World.drewN_drewN _ _ _) (congrArg (World.drewN _) (Nat.add_assoc _ _ _))⟩)))
        try go_wp2
        go_roundg (l0.length - (j + 1))
        case measure => omega
        case rel =>
          have hA := HACC.out
          rw [if_neg h0] at hA
          exact ⟨j + 1, by rw [hA], rfl, by omega, rfl, ⟨by repeat (first | exact HA.out | apply pw_below_drewN | apply below_drew1)⟩⟩
    · have dj : decide ((j : Int) < (l0.length : Int)) = false := decide_eq_false (by omega)
      have hje : j = l0.length := by omega
      subst hje
      go_wp2
      go_ret
      exact ⟨rfl, HA.out⟩
end Go.Proofs.YtkggdnnhgafopaaDoor
