/- A schema's columns cloned: a row of the callee's own, the same columns; for every list of 1000000 columns at most. -/
import Derived.Test.YtkggdnnhgafopaaDoorSch2
set_option linter.unusedVariables false
set_option linter.unusedSimpArgs false
namespace Go.Proofs.YtkggdnnhgafopaaDoor
open Go.RowKit Go.Lib Go.Shelf Go.Proofs.YtkggdnnhgafopaaDoorW.PrintWords Go.Proofs.YtkggdnnhgafopaaDoorW.PrintLast Go.Proofs.YtkggdnnhgafopaaDoorW.PrintMore Go.Proofs.YtkggdnnhgafopaaDoor.Kp
theorem flat_get (l : List S25) (j : Nat) (hj : j < l.length) : ((l.flatMap encCol).drop (j * 3)).take 3 = encCol l[j] := by
  induction l generalizing j with
  | nil => simp at hj
  | cons x l ih =>
    cases j with
    | zero => simp [encCol]
    | succ j =>
      have h3 : (encCol x).length = 3 := rfl
      rw [List.flatMap_cons, show (j + 1) * 3 = 3 + j * 3 by omega, ← List.drop_drop, ← h3, List.drop_left, h3]
      exact ih j (by simpa using hj)
theorem flat_length (l : List S25) : (l.flatMap encCol).length = l.length * 3 := by
  induction l with
  | nil => rfl
  | cons x l ih => rw [List.flatMap_cons, List.length_append, ih, show (encCol x).length = 3 from rfl, List.length_cons]; omega
theorem flat_one (l : List S25) : ∀ u ∈ l.flatMap encCol, u.oneCell' = true := by
  intro u hu
  obtain ⟨x, _, h⟩ := List.mem_flatMap.1 hu
  simp only [encCol, List.mem_cons, List.not_mem_nil, or_false] at h
  rcases h with rfl | rfl | rfl <;> rfl
theorem flat_at (l : List S25) (i : Nat) (u : Value) (h : (l.flatMap encCol)[i]? = some u) : ∃ hj : i / 3 < l.length, (encCol l[i / 3])[i % 3]? = some u := by
  have hi : i < l.length * 3 := by
    rcases Nat.lt_or_ge i (l.length * 3) with h1 | h1
    · exact h1
    · rw [List.getElem?_eq_none (by rw [flat_length]; exact h1)] at h; cases h
  have hj : i / 3 < l.length := by omega
  refine ⟨hj, ?_⟩
  rw [← flat_get l (i / 3) hj, List.getElem?_take, if_pos (by omega), List.getElem?_drop, show i / 3 * 3 + i % 3 = i by omega]
  exact h
theorem R_cols {w : World} {base : Nat} {v : Value} {l : List S25} (ho : w.ownsRow base 25 3 v l.length (l.flatMap encCol)) : Kd.R k25 25 w base (fun _ => True) v l := by
  refine ⟨fun _ _ => trivial, l.flatMap encCol, ho, flat_length l, fun j p hp => ?_⟩
  have hj : j < l.length := by
    rcases Nat.lt_or_ge j l.length with h | h
    · exact h
    · rw [List.getElem?_eq_none h] at hp; cases hp
  rw [List.getElem?_eq_getElem hj] at hp
  cases hp
  show k25.M w base _ l[j] (((l.flatMap encCol).drop (j * 3)).take 3)
  rw [flat_get l j hj]
  exact k25_mkM _ _ _ _
set_option maxRecDepth 100000 in
set_option maxHeartbeats 4000000 in
theorem clone_none (A : Option Addr) (c : Nat) (w : World) (hC : Kd.C k25 w A 0 []) :
    Calls Tryd.prog 33 #[.slice A 0 c] w fun e w' => ∃ v0_ : Value, e = .returned v0_ ∧ Kd.R k25 25 w' w.heap.size (fun _ => True) v0_ [] ∧ Below w.heap.size w w' := by
  have q28 : ∀ (w : World) (a : Option Addr) (n c n' c' : Nat), (binOp .eql 28 (.slice a n c) (.slice none n' c')).run Tryd.prog w = .ok (.bool a.isNone) w := fun w a n c n' c' => Lib.run_eql_slice_nil w _ _ a n c n' c' Tryd.underlying28
  have HC := Aside0.mk hC
  clear hC
  cases A with
  | none =>
    go_enter Tryd.func33, Tryd.ntmps33
    go_wp2
    go_ret
    exact ⟨_, rfl, Kd.R_nil _ _ _ _ _, Below.refl _ _⟩
  | some ad =>
    go_enter Tryd.func33, Tryd.ntmps33
    go_wp2_with (first | ((with_reducible refine gate_dst (N := 5) rfl ?_); refine Kd.R_lit k25 _ 25 ?hg (N := 5) ?hd (xs := ([] : List (S25))) (inner := []) (ok := fun _ => True) (okp := fun _ => True) ?hr ?hp (fun _ hk => hk) trivial (Below.refl _ _) (Nat.le_refl _) (by simp) ?_; (case hd => rfl); (case hg => rfl); (case hr => first | (go_simp; done) | (go_simp; rfl)); (case hp => exact (Reps.none _ _)); intro v134 w20 ho21 hb hg_ hnew_; clear hg_ hnew_; have HO := Aside0.mk (ho21); have HB := Aside0.mk (hb); clear hb ho21) | ((with_reducible refine gate_builtin (b := .append) (xs := #[.tmp 5, .tmp 6]) rfl ?_); at_builtin; refine Kd.R_append_rows k25 (w0 := w) w.heap.size rfl (.tmp 5) (.tmp 6) 28 25 (.agg #[(.int .i64 0), (.string ⟨#[]⟩), (.int .i64 0)]) 32 rfl Tryd.underlying28 info25 rfl (by decide) (by omega) v134 ([] : List S25) ([] : List S25) _ _ _ (fun k_ => True) (fun _ => False) rfl rfl ?aO ?aR (fun _ _ h => h) (fun _ h => h.elim) ?aF ?aB ?aS ?aL ?_; (case aR => exact Kd.C_below HC.out HB.out); (case aB => exact HB.out); (case aF => exact (fun k_ hk => trivial)); (case aO => exact HO.out); (case aS => exact (below_size HB.out)); (case aL => simp); intro v137 w22 ho hb hg hat; have HO2 := Aside0.mk ho; have HB2 := Aside0.mk hb; clear ho hb hg hat))
    go_ret
    exact ⟨_, rfl, HO2.out, HB2.out⟩
def slices_Clone.f (l0 : List S25) : Option (List S25) := if l0.length ≤ 1000000 then some l0 else none
theorem slices_Clone.calls (A0 : Option Addr) (c0 : Nat) (l0 : List S25) (r : List S25) (w : World) (hr0 : Kd.C k25 w A0 l0.length l0) (hc0 : l0.length ≤ c0) (h : slices_Clone.f l0 = some r) :
    Calls Tryd.prog 33 #[.slice A0 l0.length c0] w fun e w' => ∃ v0_ : Value, e = .returned v0_ ∧ Kd.R k25 25 w' w.heap.size (fun _ => True) v0_ r ∧ Below w.heap.size w w' := by
  unfold slices_Clone.f at h
  by_cases hl1 : l0.length ≤ 1000000
  · rw [if_pos hl1] at h
    cases h
    by_cases hl0 : 0 < l0.length
    case neg =>
      have hn : l0 = [] := List.eq_nil_of_length_eq_zero (by omega)
      subst hn
      exact clone_none A0 c0 w hr0
    have hl : 0 < l0.length ∧ l0.length ≤ 1000000 := ⟨hl0, hl1⟩
    obtain ⟨b, off, rfl, hb, hc⟩ := cols_at hr0 hl.1
    obtain ⟨i0, hi⟩ : ∃ i0, Tryd.prog.info? 25 = some i0 := by
      cases hx : Tryd.prog.info? 25 with
      | none => have := info25; rw [hx] at this; cases this
      | some i0 => exact ⟨i0, rfl⟩
    have hinfo := info25
    rw [hi] at hinfo
    simp only [Option.map_some, Option.some.injEq, Prod.mk.injEq] at hinfo
    obtain ⟨hz0, hz1, hz2⟩ := hinfo
    refine (AnyE.slices_Clone Tryd.slClone i0 _ 3 32 hi hz0 hz1 hz2 rfl (by decide) Tryd.sizeOf25 b off l0.length c0 (l0.flatMap encCol) w (flat_length l0) (Nat.le_trans hl.2 (by decide)) (by omega) (fun j u hu => ?_) (flat_one l0)).mono ?_
    · obtain ⟨hj, hu2⟩ := flat_at l0 j u hu
      have := hc (j / 3) hj (j % 3) u (by rw [getElem!_pos l0 _ hj]; exact hu2)
      rw [show off + j / 3 * 3 + j % 3 = off + j by omega] at this
      exact this
    · rintro e w' ⟨v', rfl, ho, _, hb'⟩
      exact ⟨v', rfl, R_cols ho, hb'⟩
  · rw [if_neg hl1] at h; cases h
end Go.Proofs.YtkggdnnhgafopaaDoor
