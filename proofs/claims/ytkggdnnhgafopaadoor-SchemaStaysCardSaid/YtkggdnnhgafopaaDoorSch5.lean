/- Right: are columns a schema; for every list of columns whose names have 1000000 bytes at most. -/
import Derived.Test.YtkggdnnhgafopaaDoorNams
import Derived.RegionTactic
import Derived.Deep.QuietTactic
import Derived.BigQuiet
set_option linter.unusedVariables false
set_option linter.unusedSimpArgs false
namespace Go.Proofs.YtkggdnnhgafopaaDoor
open Go.RowKit Go.Lib Go.Shelf Go.Proofs.YtkggdnnhgafopaaDoorW.PrintWords Go.Proofs.YtkggdnnhgafopaaDoorW.PrintLast Go.Proofs.YtkggdnnhgafopaaDoorW.PrintMore Go.Proofs.YtkggdnnhgafopaaDoor.Kp Go.Proofs.YtkggdnnhgafopaaDoor.Gp
def sameAs (y x : S25) : Bool := x.f0 == y.f0 || x.f1.toList == y.f1.toList
def okAt (l : List S25) (i : Nat) : Bool := !((l.take i).any (sameAs l[i]!)) && columnB l[i]!
def rightB (l : List S25) : Bool := decide (1 ≤ l.length) && (decide (l.length ≤ 12) && (List.range l.length).all (okAt l))
def namesOk (l : List S25) : Bool := l.all fun x => decide (x.f1.size ≤ 1000000)
def schema_Schema_Right.f (l0 : List S25) : Option Bool := if namesOk l0 = true then some (rightB l0) else none
theorem namesOk_at {l : List S25} (h : namesOk l = true) (i : Nat) (hi : i < l.length) : l[i]!.f1.size ≤ 1000000 := by
  rw [getElem!_pos l i hi]
  exact of_decide_eq_true (List.all_eq_true.1 h _ (List.getElem_mem hi))
theorem e40 : ∀ args w, (callFunc 40 args).run Tryd.prog w = .ok (.enter 40 args) w := enters_of Tryd.func40 (by kernel_rfl) rfl
theorem all_upto (p : Nat → Bool) (n : Nat) (h : ∀ i, i < n → p i = true) : (List.range n).all p = true := by
  rw [List.all_eq_true]
  intro i hi
  exact h i (List.mem_range.1 hi)
theorem all_not (p : Nat → Bool) (n i : Nat) (hi : i < n) (h : p i = false) : (List.range n).all p = false := by
  rw [Bool.eq_false_iff]
  intro hc
  rw [List.all_eq_true] at hc
  rw [hc i (List.mem_range.2 hi)] at h
  cases h
set_option maxRecDepth 100000 in
set_option maxHeartbeats 8000000 in
theorem right_loop (A0 : Option Addr) (c0 : Nat) (l0 : List S25) (w : World) (hr0 : Kd.C k25 w A0 l0.length l0) (hc0 : l0.length ≤ c0) (hn : namesOk l0 = true) (h1 : 1 ≤ l0.length) (h12 : l0.length ≤ 12) :
    Calls Tryd.prog 17 #[.slice A0 l0.length c0] w fun e w' => e = .returned (.bool ((List.range l0.length).all (okAt l0))) ∧ Below w.heap.size w w' := by
  obtain ⟨b, off, rfl, hb, hc⟩ := cols_at hr0 (by omega)
  have d1 : decide ((l0.length : Int) < 1) = false := decide_eq_false (by omega)
  have d2 : decide ((l0.length : Int) > 12) = false := decide_eq_false (by omega)
  have d3 : decide ((12 : Int) < (l0.length : Int)) = false := decide_eq_false (by omega)
  have hI := fun (W : World) (B2 : Nat) (j : Nat) (hj : j < l0.length) (hbw : Below w.heap.size w W) (hB1 : w.heap.size < W.heap.size) (hB2 : B2 < W.heap.size)
      (q1 : W.cell? ⟨w.heap.size, 0, none⟩ = some (.slice (some ⟨b, off, none⟩) l0.length c0)) (q2 : W.cell? ⟨B2, 0, none⟩ = some (.int .i64 j)) =>
    has_cols 40 #[.pointer (some ⟨w.heap.size, 0, none⟩), .pointer (some ⟨B2, 0, none⟩)] e40 (sameAs l0[j]!) (some ⟨b, off, none⟩) c0 j l0 W (Kd.C_below hr0 hbw) (by omega)
      (same_as l0 b off l0.length c0 j hj hj (by omega) w.heap.size B2 W (by have := hbw.size; omega) hB1 hB2 q1 q2 (fun i hi k v hv => cell_in hbw hb (hc i hi k v hv))) (by omega)
  have hcl := fun (j : Nat) (hj : j < l0.length) (W : World) => schema_column.calls 1000010 l0[j]!.f0 l0[j]!.f1 l0[j]!.f2 (columnB l0[j]!) W (column_f _ (namesOk_at hn j hj) _ (Nat.le_refl _))
  clear hr0
  go_enter Tryd.func17, Tryd.ntmps17
  go_wp2
  go_loopg [15] (l0.length) (fun kq v15 w' => ∃ j : Nat, v15 = .int .i64 j ∧ j ≤ l0.length ∧ kq = l0.length - j ∧ Aside0 ((∀ i, i < j → okAt l0 i = true) ∧ Below w.heap.size w w' ∧ w.heap.size < w'.heap.size ∧ w'.cell? ⟨w.heap.size, 0, none⟩ = some (.slice (some ⟨b, off, none⟩) l0.length c0)))
  case atStart =>
    refine ⟨0, rfl, by omega, by omega, ⟨fun i hi => absurd hi (Nat.not_lt_zero i), ?_, ?_, ?_⟩⟩
    · exact (Below.refl _ w).alloc (Nat.le_refl _) _
    · simp
    · simp
  case round =>
    obtain ⟨j, rfl, hj0, rfl, HA⟩ := hrel
    by_cases hj : j < l0.length
    · have dj : decide ((j : Int) < (l0.length : Int)) = true := decide_eq_true (by omega)
      have hB0 : w.heap.size < wr.heap.size := HA.out.2.2.1
      have hne : w.heap.size ≠ wr.heap.size := by omega
      have q0 := HA.out.2.2.2
      have q1 := Lib.cell?_alloc_some (o := .cells #[.int .i64 (j : Int)] 3) HA.out.2.2.2
      have hIj := fun W => hI W wr.heap.size j hj
      have hclj := hcl j hj
      clear hI hcl
      have g1 : decide ((0 : Int) ≤ (j : Int)) = true := decide_eq_true (by omega)
      have g2 : decide ((j : Int) ≤ (c0 : Int)) = true := decide_eq_true (by omega)
      go_wp2_with fail
      have hbA : Below w.heap.size w (wr.alloc (.cells #[.int .i64 (j : Int)] 3)) := HA.out.2.1.alloc (by omega) _
      refine (hIj _ hbA (by simp; omega) (by simp) q1 (by simp)).mono ?_
      rintro e w2 ⟨rfl, hb2⟩
      have hbW : Below w.heap.size w w2 := hbA.trans (hb2.mono (by simp; omega))
      have s1 : w2.cell? ⟨w.heap.size, 0, none⟩ = some (.slice (some ⟨b, off, none⟩) l0.length c0) := cell_in hb2 (by simp; omega) q1
      have s2 : w2.cell? ⟨wr.heap.size, 0, none⟩ = some (.int .i64 (j : Int)) := cell_in hb2 (by simp) (by simp)
      have s3 : w2.cell? ⟨b, off + j * 3, none⟩ = some (.int .i64 l0[j]!.f0) := cell_in hbW hb (hc j hj 0 _ rfl)
      have s4 : w2.cell? ⟨b, off + j * 3 + 1, none⟩ = some (.string l0[j]!.f1) := cell_in hbW hb (hc j hj 1 _ rfl)
      have s5 : w2.cell? ⟨b, off + j * 3 + 2, none⟩ = some (.int .i64 l0[j]!.f2) := cell_in hbW hb (hc j hj 2 _ rfl)
      have hlt2 : w.heap.size < w2.heap.size := by have := hb2.size; simp at this; omega
      have g3 : decide ((j : Int) < (l0.length : Int)) = true := decide_eq_true (by omega)
      have g4 : (0 : Int) ≤ (j : Int) := by omega
      have g5 : (j : Int) < (l0.length : Int) := by omega
      have hok : okAt l0 j = (!((l0.take j).any (sameAs l0[j]!)) && columnB l0[j]!) := rfl
      have HW := Lib.hid hbW
      have HO := Lib.hid (HA.out.1)
      clear hIj hbA hb2 hbW HA q0 q1 hc
      generalize columnB l0[j]! = cb at *
      generalize (l0.take j).any (sameAs l0[j]!) = ab at *
      generalize l0[j]! = y at *
      cases ab with
      | true =>
        have hall : (List.range l0.length).all (okAt l0) = false := all_not _ _ j hj hok
        go_wp2_with fail
        go_ret
        exact ⟨by rw [hall]; try rfl, HW.out⟩
      | false =>
        cases cb with
        | true =>
          go_wp2_with (go_at_call 30; refine (hclj _).mono ?_; rintro e w3 ⟨rfl, hb3⟩)
          go_roundg (l0.length - (j + 1))
          case measure => omega
          case rel =>
            refine ⟨j + 1, rfl, by omega, rfl, ⟨fun i hi => ?_, HW.out.trans (hb3.mono (Nat.le_of_lt hlt2)), Nat.lt_of_lt_of_le hlt2 hb3.size, cell_in hb3 hlt2 s1⟩⟩
            rcases Nat.lt_or_ge i j with h | h
            · exact HO.out i h
            · obtain rfl : i = j := by omega
              exact hok
        | false =>
          have hall : (List.range l0.length).all (okAt l0) = false := all_not _ _ j hj hok
          go_wp2_with (go_at_call 30; refine (hclj _).mono ?_; rintro e w3 ⟨rfl, hb3⟩)
          go_ret
          exact ⟨by rw [hall]; try rfl, HW.out.trans (hb3.mono (Nat.le_of_lt hlt2))⟩
    · have dj : decide ((j : Int) < (l0.length : Int)) = false := decide_eq_false (by omega)
      have hall : (List.range l0.length).all (okAt l0) = true := all_upto _ _ (fun i hi => HA.out.1 i (by omega))
      go_wp2
      go_ret
      exact ⟨by rw [hall]; try rfl, HA.out.2.1⟩
theorem schema_Schema_Right.calls (A0 : Option Addr) (c0 : Nat) (l0 : List S25) (r : Bool) (w : World) (hr0 : Kd.C k25 w A0 l0.length l0) (hc0 : l0.length ≤ c0) (h : schema_Schema_Right.f l0 = some r) :
    Calls Tryd.prog 17 #[.slice A0 l0.length c0] w fun e w' => e = .returned (.bool r) ∧ Below w.heap.size w w' := by
  unfold schema_Schema_Right.f at h
  by_cases hn : namesOk l0 = true
  · rw [if_pos hn] at h
    cases h
    by_cases h1 : 1 ≤ l0.length
    · by_cases h12 : l0.length ≤ 12
      · have e : rightB l0 = (List.range l0.length).all (okAt l0) := by unfold rightB; rw [decide_eq_true h1, decide_eq_true h12, Bool.true_and, Bool.true_and]
        rw [e]
        exact right_loop A0 c0 l0 w hr0 hc0 hn h1 h12
      · have e : rightB l0 = false := by unfold rightB; rw [decide_eq_false h12, Bool.false_and, Bool.and_false]
        rw [e]
        clear hr0 hn e
        have d1 : decide ((l0.length : Int) < 1) = false := decide_eq_false (by omega)
        have d2 : decide ((l0.length : Int) > 12) = true := decide_eq_true (by omega)
        have d3 : decide ((12 : Int) < (l0.length : Int)) = true := decide_eq_true (by omega)
        go_enter Tryd.func17, Tryd.ntmps17
        go_wp2
        go_ret
        exact ⟨rfl, (Below.refl _ w).alloc (Nat.le_refl _) _⟩
    · have e : rightB l0 = false := by unfold rightB; rw [decide_eq_false h1, Bool.false_and]
      rw [e]
      clear hr0 hn e
      have d1 : decide ((l0.length : Int) < 1) = true := decide_eq_true (by omega)
      go_enter Tryd.func17, Tryd.ntmps17
      go_wp2
      go_ret
      exact ⟨rfl, (Below.refl _ w).alloc (Nat.le_refl _) _⟩
  · rw [if_neg hn] at h; cases h
end Go.Proofs.YtkggdnnhgafopaaDoor
