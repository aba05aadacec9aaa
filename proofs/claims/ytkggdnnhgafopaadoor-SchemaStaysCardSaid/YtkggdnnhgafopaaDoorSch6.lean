/- Add: columns with one more; for every list of columns and every column whose name has 1000000 bytes at most. -/
import Derived.Test.YtkggdnnhgafopaaDoorSch5
set_option linter.unusedVariables false
set_option linter.unusedSimpArgs false
namespace Go.Proofs.YtkggdnnhgafopaaDoor
open Go.RowKit Go.Lib Go.Shelf Go.Proofs.YtkggdnnhgafopaaDoorW.PrintWords Go.Proofs.YtkggdnnhgafopaaDoorW.PrintLast Go.Proofs.YtkggdnnhgafopaaDoorW.PrintMore Go.Proofs.YtkggdnnhgafopaaDoor.Kp Go.Proofs.YtkggdnnhgafopaaDoor.Gp
def addB (l : List S25) (c : S25) : List S25 × Int :=
  if (!columnB c || l.any (fun x => x.f0 == c.f0)) = true then ([], 1) else if 0 ≤ findI l c.f1 then ([], 122) else if 12 ≤ l.length then ([], 62) else (l ++ [c], 0)
def schema_Schema_Add.f (l0 : List S25) (a1_0 : Int) (a1_1 : ByteArray) (a1_2 : Int) : Option (List S25 × Int) := if a1_1.size ≤ 1000000 then some (addB l0 ⟨a1_0, a1_1, a1_2⟩) else none
theorem e32 : ∀ args w, (callFunc 32 args).run Tryd.prog w = .ok (.enter 32 args) w := enters_of Tryd.func32 (by kernel_rfl) rfl
/-- A box of one column, laid at the call's beginning, is as it was. -/
def Boxed (w : World) (a0 : Int) (a1 : ByteArray) (a2 : Int) (W : World) : Prop :=
  W.cell? ⟨w.heap.size, 0, none⟩ = some (.int .i64 a0) ∧ W.cell? ⟨w.heap.size, 1, none⟩ = some (.string a1) ∧ W.cell? ⟨w.heap.size, 2, none⟩ = some (.int .i64 a2) ∧ w.heap.size < W.heap.size ∧ Below w.heap.size w W
theorem boxed_new (w : World) (a0 : Int) (a1 : ByteArray) (a2 : Int) : Boxed w a0 a1 a2 (w.alloc (.cells #[.int .i64 a0, .string a1, .int .i64 a2] 25)) :=
  ⟨by simp, by simp, by simp, by simp, (Below.refl _ w).alloc (Nat.le_refl _) _⟩
theorem boxed_below {w W W2 : World} {a0 : Int} {a1 : ByteArray} {a2 : Int} (h : Boxed w a0 a1 a2 W) (hb : Below W.heap.size W W2) : Boxed w a0 a1 a2 W2 := by
  obtain ⟨h0, h1, h2, h3, h4⟩ := h
  exact ⟨cell_in hb h3 h0, cell_in hb h3 h1, cell_in hb h3 h2, Nat.lt_of_lt_of_le h3 hb.size, h4.trans (hb.mono (Nat.le_of_lt h3))⟩
/-- A row of one column, as it lies in memory. -/
theorem lit_C {W : World} {g : Nat} {x : S25} (h0 : W.cell? ⟨g, 0, none⟩ = some (.int .i64 x.f0)) (h1 : W.cell? ⟨g, 1, none⟩ = some (.string x.f1)) (h2 : W.cell? ⟨g, 2, none⟩ = some (.int .i64 x.f2)) : Kd.C k25 W (some ⟨g, 0, none⟩) 1 [x] := by
  refine ⟨rfl, by decide, fun _ => ⟨⟨g, 0, none⟩, rfl, fun j y hy => ?_⟩⟩
  match j, hy with
  | 0, hy =>
    cases hy
    refine ⟨[.int .i64 x.f0, .string x.f1, .int .i64 x.f2], rfl, k25_mk _ x, fun i u hu => ?_⟩
    match i, hu with
    | 0, hu => cases hu; exact h0
    | 1, hu => cases hu; exact h1
    | 2, hu => cases hu; exact h2
  | j + 1, hy => cases hy
theorem boxed_drew {w W : World} {a0 : Int} {a1 : ByteArray} {a2 : Int} (h : Boxed w a0 a1 a2 W) : Boxed w a0 a1 a2 W.drew := boxed_below h (below_drew (Below.refl _ _))
theorem boxed_alloc {w W : World} {a0 : Int} {a1 : ByteArray} {a2 : Int} (h : Boxed w a0 a1 a2 W) (o : Obj) : Boxed w a0 a1 a2 (W.alloc o) := boxed_below h ((Below.refl _ W).alloc (Nat.le_refl _) _)
theorem lit_new (W : World) (x : S25) : Kd.C k25 (W.alloc (.cells #[.int .i64 x.f0, .string x.f1, .int .i64 x.f2] 25)) (some ⟨W.heap.size, 0, none⟩) 1 [x] := lit_C (by simp) (by simp) (by simp)
theorem boxed_below_of {w W : World} {a0 : Int} {a1 : ByteArray} {a2 : Int} (h : Boxed w a0 a1 a2 W) : Below w.heap.size w W := h.2.2.2.2
theorem boxed_le {w W : World} {a0 : Int} {a1 : ByteArray} {a2 : Int} (h : Boxed w a0 a1 a2 W) : w.heap.size ≤ W.heap.size := Nat.le_of_lt h.2.2.2.1
theorem boxed_0 {w W : World} {a0 : Int} {a1 : ByteArray} {a2 : Int} (h : Boxed w a0 a1 a2 W) : W.cell? ⟨w.heap.size, 0, none⟩ = some (.int .i64 a0) := h.1
theorem boxed_1 {w W : World} {a0 : Int} {a1 : ByteArray} {a2 : Int} (h : Boxed w a0 a1 a2 W) : W.cell? ⟨w.heap.size, 1, none⟩ = some (.string a1) := h.2.1
theorem boxed_2 {w W : World} {a0 : Int} {a1 : ByteArray} {a2 : Int} (h : Boxed w a0 a1 a2 W) : W.cell? ⟨w.heap.size, 2, none⟩ = some (.int .i64 a2) := h.2.2.1
set_option maxRecDepth 100000 in
set_option maxHeartbeats 8000000 in
theorem schema_Schema_Add.calls (A0 : Option Addr) (c0 : Nat) (l0 : List S25) (a1_0 : Int) (a1_1 : ByteArray) (a1_2 : Int) (r1 : List S25) (r2 : Int) (w : World) (hr0 : Kd.C k25 w A0 l0.length l0) (hc0 : l0.length ≤ c0) (h : schema_Schema_Add.f l0 a1_0 a1_1 a1_2 = some (r1, r2)) :
    Calls Tryd.prog 8 #[.slice A0 l0.length c0, .agg #[.int .i64 a1_0, .string a1_1, .int .i64 a1_2]] w fun e w' => ∃ v0_ : Value, e = .returned (.tuple #[v0_, .int .i64 r2]) ∧ Kd.R k25 25 w' w.heap.size (fun _ => True) v0_ r1 ∧ Below w.heap.size w w' := by
  unfold schema_Schema_Add.f at h
  by_cases hz : a1_1.size ≤ 1000000
  case neg => rw [if_neg hz] at h; cases h
  rw [if_pos hz] at h
  have hbig := hr0.2.1
  have hF := fun (W : World) (hb : Below w.heap.size w W) => schema_Schema_Find.calls A0 c0 l0 a1_1 (max (findI l0 a1_1) 0) (decide (0 ≤ findI l0 a1_1)) W (Kd.C_below hr0 hb) hc0 rfl
  have hC := fun (W : World) => schema_column.calls 1000010 a1_0 a1_1 a1_2 (columnB ⟨a1_0, a1_1, a1_2⟩) W (column_f ⟨a1_0, a1_1, a1_2⟩ hz _ (Nat.le_refl _))
  have hA := fun (W : World) (hb : Below w.heap.size w W) (hB : w.heap.size < W.heap.size) (q : W.cell? ⟨w.heap.size, 0, none⟩ = some (.int .i64 a1_0)) =>
    has_cols 32 #[.pointer (some ⟨w.heap.size, 0, none⟩)] e32 (fun x => x.f0 == a1_0) A0 c0 l0.length l0 W (Kd.C_below hr0 hb) (Nat.le_refl _) (same_id a1_0 w.heap.size W hB q) hbig
  have hCl := fun (W : World) (hb : Below w.heap.size w W) (h12 : l0.length < 12) => slices_Clone.calls A0 c0 l0 l0 W (Kd.C_below hr0 hb) hc0 (by unfold slices_Clone.f; rw [if_pos (by omega)])
  have h2 := Option.some.inj h
  clear h
  unfold addB at h2
  simp only at h2
  rw [List.take_length] at hA
  generalize columnB ⟨a1_0, a1_1, a1_2⟩ = cb at *
  generalize l0.any (fun x => x.f0 == a1_0) = ab at *
  generalize findI l0 a1_1 = I at *
  clear hr0
  have T := Lib.hid (boxed_new w a1_0 a1_1 a1_2)
  cases cb with
  | false =>
    rw [if_pos (by rfl)] at h2
    obtain ⟨rfl, rfl⟩ := Prod.mk.inj h2
    go_enter Tryd.func8, Tryd.ntmps8
    go_wp2_with (first | (go_at_call 18; refine (hF _ T.out.2.2.2.2).mono ?_; rintro e w2 ⟨rfl, hb2⟩; have T := Lib.hid (boxed_below T.out hb2); obtain ⟨t0, t1, t2, t3, _⟩ := T.out; clear hb2) | (go_at_call 30; refine (hC _).mono ?_; rintro e w3 ⟨rfl, hb2⟩; have T := Lib.hid (boxed_below T.out hb2); obtain ⟨t0, t1, t2, t3, _⟩ := T.out; clear hb2) | (go_at_call 31; refine (hA _ T.out.2.2.2.2 T.out.2.2.2.1 T.out.1).mono ?_; rintro e w4 ⟨rfl, hb2⟩; have T := Lib.hid (boxed_below T.out hb2); obtain ⟨t0, t1, t2, t3, _⟩ := T.out; clear hb2))
    go_ret2
    exact ⟨_, rfl, Kd.R_nil _ _ _ _ _, T.out.2.2.2.2⟩
  | true =>
    cases ab with
    | true =>
      rw [if_pos (by rfl)] at h2
      obtain ⟨rfl, rfl⟩ := Prod.mk.inj h2
      go_enter Tryd.func8, Tryd.ntmps8
      go_wp2_with (first | (go_at_call 18; refine (hF _ T.out.2.2.2.2).mono ?_; rintro e w2 ⟨rfl, hb2⟩; have T := Lib.hid (boxed_below T.out hb2); obtain ⟨t0, t1, t2, t3, _⟩ := T.out; clear hb2) | (go_at_call 30; refine (hC _).mono ?_; rintro e w3 ⟨rfl, hb2⟩; have T := Lib.hid (boxed_below T.out hb2); obtain ⟨t0, t1, t2, t3, _⟩ := T.out; clear hb2) | (go_at_call 31; refine (hA _ T.out.2.2.2.2 T.out.2.2.2.1 T.out.1).mono ?_; rintro e w4 ⟨rfl, hb2⟩; have T := Lib.hid (boxed_below T.out hb2); obtain ⟨t0, t1, t2, t3, _⟩ := T.out; clear hb2))
      go_ret2
      exact ⟨_, rfl, Kd.R_nil _ _ _ _ _, T.out.2.2.2.2⟩
    | false =>
      rw [if_neg (by decide)] at h2
      by_cases hI : 0 ≤ I
      · have hd : decide (0 ≤ I) = true := decide_eq_true hI
        rw [hd] at hF
        rw [if_pos hI] at h2
        obtain ⟨rfl, rfl⟩ := Prod.mk.inj h2
        go_enter Tryd.func8, Tryd.ntmps8
        go_wp2_with (first | (go_at_call 18; refine (hF _ T.out.2.2.2.2).mono ?_; rintro e w2 ⟨rfl, hb2⟩; have T := Lib.hid (boxed_below T.out hb2); obtain ⟨t0, t1, t2, t3, _⟩ := T.out; clear hb2) | (go_at_call 30; refine (hC _).mono ?_; rintro e w3 ⟨rfl, hb2⟩; have T := Lib.hid (boxed_below T.out hb2); obtain ⟨t0, t1, t2, t3, _⟩ := T.out; clear hb2) | (go_at_call 31; refine (hA _ T.out.2.2.2.2 T.out.2.2.2.1 T.out.1).mono ?_; rintro e w4 ⟨rfl, hb2⟩; have T := Lib.hid (boxed_below T.out hb2); obtain ⟨t0, t1, t2, t3, _⟩ := T.out; clear hb2))
        go_ret2
        exact ⟨_, rfl, Kd.R_nil _ _ _ _ _, T.out.2.2.2.2⟩
      · have hd : decide (0 ≤ I) = false := decide_eq_false hI
        rw [hd] at hF
        rw [if_neg hI] at h2
        by_cases h12 : 12 ≤ l0.length
        · rw [if_pos h12] at h2
          obtain ⟨rfl, rfl⟩ := Prod.mk.inj h2
          have d12 : decide ((12 : Int) ≤ (l0.length : Int)) = true := decide_eq_true (by omega)
          go_enter Tryd.func8, Tryd.ntmps8
          go_wp2_with (first | (go_at_call 18; refine (hF _ T.out.2.2.2.2).mono ?_; rintro e w2 ⟨rfl, hb2⟩; have T := Lib.hid (boxed_below T.out hb2); obtain ⟨t0, t1, t2, t3, _⟩ := T.out; clear hb2) | (go_at_call 30; refine (hC _).mono ?_; rintro e w3 ⟨rfl, hb2⟩; have T := Lib.hid (boxed_below T.out hb2); obtain ⟨t0, t1, t2, t3, _⟩ := T.out; clear hb2) | (go_at_call 31; refine (hA _ T.out.2.2.2.2 T.out.2.2.2.1 T.out.1).mono ?_; rintro e w4 ⟨rfl, hb2⟩; have T := Lib.hid (boxed_below T.out hb2); obtain ⟨t0, t1, t2, t3, _⟩ := T.out; clear hb2))
          go_ret2
          exact ⟨_, rfl, Kd.R_nil _ _ _ _ _, T.out.2.2.2.2⟩
        · rw [if_neg h12] at h2
          obtain ⟨rfl, rfl⟩ := Prod.mk.inj h2
          have d12 : decide ((12 : Int) ≤ (l0.length : Int)) = false := decide_eq_false (by omega)
          go_enter Tryd.func8, Tryd.ntmps8
          go_wp2_with (first | (go_at_call 18; refine (hF _ T.out.2.2.2.2).mono ?_; rintro e w2 ⟨rfl, hb2⟩; have T := Lib.hid (boxed_below T.out hb2); obtain ⟨t0, t1, t2, t3, _⟩ := T.out; clear hb2) | (go_at_call 30; refine (hC _).mono ?_; rintro e w3 ⟨rfl, hb2⟩; have T := Lib.hid (boxed_below T.out hb2); obtain ⟨t0, t1, t2, t3, _⟩ := T.out; clear hb2) | (go_at_call 31; refine (hA _ T.out.2.2.2.2 T.out.2.2.2.1 T.out.1).mono ?_; rintro e w4 ⟨rfl, hb2⟩; have T := Lib.hid (boxed_below T.out hb2); obtain ⟨t0, t1, t2, t3, _⟩ := T.out; clear hb2))
          have hD := boxed_drew T.out
          clear T t0 t1 t2 t3
          refine start_ (n := 7) (S := fun w' => w'.cell? ⟨w.heap.size, 0, none⟩ = some (.int .i64 a1_0) ∧ w'.cell? ⟨w.heap.size, 1, none⟩ = some (.string a1_1) ∧ w'.cell? ⟨w.heap.size, 2, none⟩ = some (.int .i64 a1_2) ∧ Boxed w a1_0 a1_1 a1_2 w') (ds := [4]) #[false, false, false, false, false, false, false] (by kernel_rfl) rfl rfl ⟨(boxed_0 hD), (boxed_1 hD), (boxed_2 hD), hD⟩ (fun hHeld => ?_)
          refine pure_ (i := 0) (N := some 30) (v := ?_) (a' := ?_) #[true, false, false, false, false, false, false] rfl rfl (by kernel_rfl) (fun _ _ _ h => h) (Or.inl ⟨by rfl, ?_⟩) ?_ ?_
          rotate_left
          · intro w'
            go_simp
            with_reducible rfl
          rotate_left
          · simp only [Act.put, List.setIfInBounds_toArray, List.set_cons_zero, List.set_cons_succ, i64_w, i32_w]
            rfl
          refine take_ (i := 2) (N := some 32) (v := ?_) (a' := ?_) #[true, false, true, false, false, false, false] rfl rfl (by kernel_rfl) (fun _ _ _ h => h) (Or.inl ⟨by rfl, ?_⟩) hHeld ?_ ?_
          rotate_left
          · rintro w' ⟨s0, s1, s2, s3⟩
            go_simp
            with_reducible rfl
          rotate_left
          · simp only [Act.put, List.setIfInBounds_toArray, List.set_cons_zero, List.set_cons_succ, i64_w, i32_w]
            rfl
          refine join_ (σ := Value × Nat) 3 #[true, true, true, true, false, false, false] (fun s => [(31, s.1), (33, .slice (some ⟨s.2, 0, none⟩) 1 1)]) (fun s w' => Kd.R k25 25 w' w.heap.size (fun _ => True) s.1 l0 ∧ Boxed w a1_0 a1_1 a1_2 w' ∧ Kd.C k25 w' (some ⟨s.2, 0, none⟩) 1 [(⟨a1_0, a1_1, a1_2⟩ : S25)]) ?_ ?_
          rotate_left
          · intro hCont
            refine two_ (i := 1) (j := 3) (Ni := some 31) (Nj := some 33) #[true, true, true, false, false, false, false] #[true, false, true, true, false, false, false] rfl rfl rfl rfl (by kernel_rfl) (by decide) (by decide) (fun K hK => ?_) (fun K hK => ?_)
            · skip
              have hD0 := hHeld.2.2.2
              refine goes_ Tryd.func33 (by kernel_rfl) rfl #[.slice A0 l0.length c0] (by rfl) rfl rfl (by simp only [List.map_toArray, List.map_cons, List.map_nil]; rfl) ?_
              with_reducible refine (hCl _ (boxed_below_of hD0) (by omega)).mono ?_
              rintro e w5 ⟨v5, rfl, hr5, hb5⟩
              refine ⟨_, rfl, ?_⟩
              have hT5 := boxed_below hD0 hb5
              have hR5 := Kd.R_lower hr5 (boxed_le hD0)
              refine hK.out _ _ ⟨(boxed_0 hT5), (boxed_1 hT5), (boxed_2 hT5), hT5⟩ (fun hHeld => ?_)
              clear hK K
              refine norm_ (a' := ?_) ?_ ?_
              rotate_left
              · show Act.put _ (some 31) _ = _
                simp only [Act.put, List.setIfInBounds_toArray, List.set_cons_zero, List.set_cons_succ, i64_w, i32_w]
                rfl
              refine one_ (i := 3) (N := some 33) #[true, true, true, true, false, false, false] rfl rfl (by kernel_rfl) (by decide) (fun K hK => ?_)
              have hD1 := hHeld.2.2.2
              refine value_ (w1 := ?_) (v := ?_) (by rfl) rfl ?_ ?_
              rotate_left 2
              · go_simp
                constructor
                · rfl
                · rfl
              refine hK.out _ _ ⟨(boxed_0 (boxed_alloc hD1 _)), (boxed_1 (boxed_alloc hD1 _)), (boxed_2 (boxed_alloc hD1 _)), (boxed_alloc hD1 _)⟩ (fun hHeld => ?_)
              clear hK K
              refine norm_ (a' := ?_) ?_ ?_
              rotate_left
              · show Act.put _ (some 33) _ = _
                simp only [Act.put, List.setIfInBounds_toArray, List.set_cons_zero, List.set_cons_succ, i64_w, i32_w]
                rfl
              exact norm_ (by simp only [putAll, Act.put, List.setIfInBounds_toArray, List.set_cons_zero, List.set_cons_succ]) (hCont (v5, w5.heap.size) _ ⟨Kd.R_alloc hR5 _, boxed_alloc hT5 _, lit_new w5 ⟨a1_0, a1_1, a1_2⟩⟩)
            · skip
              have hD1 := hHeld.2.2.2
              refine value_ (w1 := ?_) (v := ?_) (by rfl) rfl ?_ ?_
              rotate_left 2
              · go_simp
                constructor
                · rfl
                · rfl
              refine hK.out _ _ ⟨(boxed_0 (boxed_alloc hD1 _)), (boxed_1 (boxed_alloc hD1 _)), (boxed_2 (boxed_alloc hD1 _)), (boxed_alloc hD1 _)⟩ (fun hHeld => ?_)
              clear hK K
              refine norm_ (a' := ?_) ?_ ?_
              rotate_left
              · show Act.put _ (some 33) _ = _
                simp only [Act.put, List.setIfInBounds_toArray, List.set_cons_zero, List.set_cons_succ, i64_w, i32_w]
                rfl
              refine one_ (i := 1) (N := some 31) #[true, true, true, true, false, false, false] rfl rfl (by kernel_rfl) (by decide) (fun K hK => ?_)
              have hD0 := hHeld.2.2.2
              refine goes_ Tryd.func33 (by kernel_rfl) rfl #[.slice A0 l0.length c0] (by rfl) rfl rfl (by simp only [List.map_toArray, List.map_cons, List.map_nil]; rfl) ?_
              with_reducible refine (hCl _ (boxed_below_of hD0) (by omega)).mono ?_
              rintro e w5 ⟨v5, rfl, hr5, hb5⟩
              refine ⟨_, rfl, ?_⟩
              have hT5 := boxed_below hD0 hb5
              have hR5 := Kd.R_lower hr5 (boxed_le hD0)
              have hL5 := Kd.C_below (Kd.C_drew (lit_new w4 ⟨a1_0, a1_1, a1_2⟩)) hb5
              refine hK.out _ _ ⟨(boxed_0 hT5), (boxed_1 hT5), (boxed_2 hT5), hT5⟩ (fun hHeld => ?_)
              clear hK K
              refine norm_ (a' := ?_) ?_ ?_
              rotate_left
              · show Act.put _ (some 31) _ = _
                simp only [Act.put, List.setIfInBounds_toArray, List.set_cons_zero, List.set_cons_succ, i64_w, i32_w]
                rfl
              exact norm_ (by simp only [putAll, Act.put, List.setIfInBounds_toArray, List.set_cons_zero, List.set_cons_succ]) (hCont (v5, w4.heap.size) _ ⟨hR5, hT5, hL5⟩)
          rintro ⟨v5, g⟩ w6 ⟨hR6, hT6, hL6⟩
          have hHeld : w6.cell? ⟨w.heap.size, 0, none⟩ = some (.int .i64 a1_0) ∧ w6.cell? ⟨w.heap.size, 1, none⟩ = some (.string a1_1) ∧ w6.cell? ⟨w.heap.size, 2, none⟩ = some (.int .i64 a1_2) ∧ Boxed w a1_0 a1_1 a1_2 w6 := ⟨boxed_0 hT6, boxed_1 hT6, boxed_2 hT6, hT6⟩
          refine norm_ (a' := ?_) ?_ ?_
          rotate_left
          · simp only [putAll, Act.put, List.setIfInBounds_toArray, List.set_cons_zero, List.set_cons_succ]
            rfl
          refine last_ (i := 4) (N := some 34) #[true, true, true, true, true, false, false] rfl rfl (by kernel_rfl) (by decide) (fun K hK => ?_)
          refine Kd.R_append_rows_step k25 (w0 := w) w.heap.size (by rfl) (.tmp 31) (.tmp 33) 28 25 (.agg #[(.int .i64 0), (.string ⟨#[]⟩), (.int .i64 0)]) 32 rfl Tryd.underlying28 info25 rfl (by decide) (by omega) v5 l0 [(⟨a1_0, a1_1, a1_2⟩ : S25)] _ _ _ (fun _ => True) (fun _ => False) rfl rfl hR6 hL6 (fun _ _ h => h) (fun _ h => h.elim) (fun _ _ => trivial) (boxed_below_of hT6) (boxed_le hT6) (by omega) ?_
          intro v7 w7 ho7 hb7 hg7 hat7
          refine hK.out _ _ ?_
          clear hK K
          refine norm_ (a' := ?_) ?_ ?_
          rotate_left
          · show Act.put _ (some 34) _ = _
            simp only [Act.put, List.setIfInBounds_toArray, List.set_cons_zero, List.set_cons_succ, i64_w, i32_w]
            rfl
          refine pure_ (i := 5) (N := some 4) (v := ?_) (a' := ?_) #[true, true, true, true, true, true, false] rfl rfl (by kernel_rfl) (fun _ _ _ h => h) (Or.inl ⟨by rfl, ?_⟩) ?_ ?_
          rotate_left
          · intro w'
            go_simp
            with_reducible rfl
          rotate_left
          · simp only [Act.put, List.setIfInBounds_toArray, List.set_cons_zero, List.set_cons_succ, i64_w, i32_w]
            rfl
          refine pure_ (i := 6) (N := some 5) (v := ?_) (a' := ?_) #[true, true, true, true, true, true, true] rfl rfl (by kernel_rfl) (fun _ _ _ h => h) (Or.inl ⟨by rfl, ?_⟩) ?_ ?_
          rotate_left
          · intro w'
            go_simp
            with_reducible rfl
          rotate_left
          · simp only [Act.put, List.setIfInBounds_toArray, List.set_cons_zero, List.set_cons_succ, i64_w, i32_w]
            rfl
          refine done_ (by kernel_rfl) ?_
          go_wp2
          go_ret2
          exact ⟨_, rfl, ho7, hb7⟩
end Go.Proofs.YtkggdnnhgafopaaDoor
