/- slices.Delete of one column out of a row of one's own; and Drop over it. -/
import Derived.Test.YtkggdnnhgafopaaDoorSch6
import Derived.Lib.SliceRun
set_option linter.unusedVariables false
set_option linter.unusedSimpArgs false
namespace Go.Proofs.YtkggdnnhgafopaaDoor
open Go.RowKit Go.Lib Go.Shelf Go.Proofs.YtkggdnnhgafopaaDoorW.PrintWords Go.Proofs.YtkggdnnhgafopaaDoorW.PrintLast Go.Proofs.YtkggdnnhgafopaaDoorW.PrintMore Go.Proofs.YtkggdnnhgafopaaDoor.Kp Go.Proofs.YtkggdnnhgafopaaDoor.Gp
/-- A cell stored behind a row's end leaves the row as it is. -/
theorem R_beyond {W : World} {base g n c : Nat} {ok : Nat → Prop} {xs : List S25} (h : Kd.R k25 25 W base ok (.slice (some ⟨g, 0, none⟩) n c) xs) (hn : xs.length = n) (o : Nat) (ho : n * 3 ≤ o) (u : Value) :
    Kd.R k25 25 (W.setCell ⟨g, o, none⟩ u) base ok (.slice (some ⟨g, 0, none⟩) n c) xs ∧ W.grownBy (W.setCell ⟨g, o, none⟩ u) (some g) := by
  obtain ⟨h0, inner, hown, hr⟩ := h
  subst hn
  have hs := hown.stored o u
  have hl : inner.length ≤ o := by rw [hown.1]; exact ho
  rw [List.set_eq_of_length_le hl] at hs
  exact ⟨⟨h0, inner, hs.1, hr.imp_ (fun p cs hp => by rw [k25_openM hp]; exact k25_mkM _ _ _ _)⟩, hs.2⟩
theorem R_cell {W : World} {base g n c : Nat} {ok : Nat → Prop} {xs : List S25} (h : Kd.R k25 25 W base ok (.slice (some ⟨g, 0, none⟩) n c) xs) (o : Nat) (ho : o < c * 3) :
    (W.cell? ⟨g, o, none⟩).isSome = true ∧ W.frozen? ⟨g, o, none⟩ = false := by
  obtain ⟨h0, inner, hown, hr⟩ := h
  rcases hown.2 with ⟨hv, _⟩ | ⟨g', cap', cur, hv, hb, hh, _, hcm, hcs, htake⟩
  · cases hv
  · simp only [Value.slice.injEq, Option.some.injEq, Addr.mk.injEq, and_true, true_and] at hv
    obtain ⟨rfl, _, rfl⟩ := hv
    have hcs' : cur.size = c * 3 := hcs
    constructor
    · simp [World.cell?, hh, hcs', ho]
    · simp [World.frozen?, hh]
theorem zero25 (w : World) : (zeroValue 25).run Tryd.prog w = .ok (.agg #[(.int .i64 0), (.string ⟨#[]⟩), (.int .i64 0)]) w := by
  have e : Tryd.t25.zero = some (.agg #[(.int .i64 0), (.string ⟨#[]⟩), (.int .i64 0)]) := by kernel_rfl
  simp [zeroValue, Sem.run_bind, e]
theorem clear_one (W : World) (g o m c : Nat) (hm : m = 1) (hc : ∀ j, j < 3 → (W.cell? ⟨g, o + j, none⟩).isSome = true) (hf : ∀ j, j < 3 → W.frozen? ⟨g, o + j, none⟩ = false) :
    (Builtin.clear_ #[28] 0 #[.slice (some ⟨g, o, none⟩) m c]).run Tryd.prog W = .ok (.tuple #[]) (((W.setCell ⟨g, o, none⟩ (.int .i64 0)).setCell ⟨g, o + 1, none⟩ (.string ⟨#[]⟩)).setCell ⟨g, o + 1 + 1, none⟩ (.int .i64 0)) := by
  subst hm
  have hst := run_storeCells_cells (P := Tryd.prog) g o [.int .i64 0, .string ⟨#[]⟩, .int .i64 0] 0 W (by simpa using hc) (by simpa using hf) (by intro v hv; simp at hv; rcases hv with rfl | rfl | rfl <;> rfl)
  simp only [Nat.add_zero] at hst
  have hu := run_underlying (P := Tryd.prog) Tryd.underlying28
  have hzc : (Builtin.zeroCells (Value.cells (.agg #[(.int .i64 0), (.string ⟨#[]⟩), (.int .i64 0)])) 1).toList = [.int .i64 0, .string ⟨#[]⟩, .int .i64 0] := by kernel_rfl
  simp [Builtin.clear_, hu, zero25, hzc, hst, World.setCells]
set_option maxRecDepth 100000 in
set_option maxHeartbeats 8000000 in
theorem delete_own (g c k base : Nat) (xs : List S25) (ok : Nat → Prop) (w : World) (HO : Kd.R k25 25 w base ok (.slice (some ⟨g, 0, none⟩) xs.length c) xs) (hk : k < xs.length) (hb : base ≤ w.heap.size) :
    Calls Tryd.prog 35 #[.slice (some ⟨g, 0, none⟩) xs.length c, .int .i64 k, .int .i64 ((k : Int) + 1)] w fun e w' => e = .returned (.slice (some ⟨g, 0, none⟩) (xs.length - 1) c) ∧ Kd.R k25 25 w' base ok (.slice (some ⟨g, 0, none⟩) (xs.length - 1) c) (xs.eraseIdx k) ∧ w.grownBy w' (some g) := by
  obtain ⟨hn, hnc, hm⟩ := Kd.R_reads' HO
  have H := Lib.hid HO
  have HD : Kd.R k25 25 w.drew base ok (.slice (some ⟨g, 0, none⟩) xs.length c) xs := Kd.R_drew HO
  have HBD : Below base w w.drew := below_drew (Below.refl _ _)
  have hbD : base ≤ w.drew.heap.size := hb
  clear HO hm
  have g1 : decide ((0 : Int) ≤ (k : Int)) = true := decide_eq_true (by omega)
  have g2 : decide ((k : Int) ≤ (k : Int) + 1) = true := decide_eq_true (by omega)
  have g3 : decide ((k : Int) + 1 ≤ (xs.length : Int)) = true := decide_eq_true (by omega)
  have g4 : ((k : Int) == (k : Int) + 1) = false := beq_eq_false_iff_ne.2 (by omega)
  have g5 : k ≤ c := by omega
  have g6 : (0 : Int) ≤ (k : Int) + 1 := by omega
  have g7 : (k : Int) + 1 ≤ (xs.length : Int) := by omega
  go_enter Tryd.func35, Tryd.ntmps35
  go_wp2_with fail
  refine start_ (n := 8) (S := fun w' => True) (ds := [6]) #[false, false, false, false, false, false, false, false] (by kernel_rfl) rfl rfl trivial (fun hHeld => ?_)
  refine pure_ (i := 0) (N := some 20) (v := ?_) (a' := ?_) #[true, false, false, false, false, false, false, false] rfl rfl (by kernel_rfl) (fun _ _ _ h => h) (Or.inl ⟨by rfl, ?_⟩) ?_ ?_
  rotate_left
  · intro w'
    go_simp
    with_reducible rfl
  rotate_left
  · simp only [Act.put, List.setIfInBounds_toArray, List.set_cons_zero, List.set_cons_succ, i64_w, i32_w]
    rfl
  refine pure_ (i := 1) (N := some 21) (v := ?_) (a' := ?_) #[true, true, false, false, false, false, false, false] rfl rfl (by kernel_rfl) (fun _ _ _ h => h) (Or.inl ⟨by rfl, ?_⟩) ?_ ?_
  rotate_left
  · intro w'
    go_simp
    with_reducible rfl
  rotate_left
  · simp only [Act.put, List.setIfInBounds_toArray, List.set_cons_zero, List.set_cons_succ, i64_w, i32_w]
    rfl
  refine pure_ (i := 2) (N := some 22) (v := ?_) (a' := ?_) #[true, true, true, false, false, false, false, false] rfl rfl (by kernel_rfl) (fun _ _ _ h => h) (Or.inl ⟨by rfl, ?_⟩) ?_ ?_
  rotate_left
  · intro w'
    go_simp
    with_reducible rfl
  rotate_left
  · simp only [Act.put, List.setIfInBounds_toArray, List.set_cons_zero, List.set_cons_succ, i64_w, i32_w]
    rfl
  refine pure_ (i := 3) (N := some 23) (v := ?_) (a' := ?_) #[true, true, true, true, false, false, false, false] rfl rfl (by kernel_rfl) (fun _ _ _ h => h) (Or.inl ⟨by rfl, ?_⟩) ?_ ?_
  rotate_left
  · intro w'
    go_simp
    with_reducible rfl
  rotate_left
  · simp only [Act.put, List.setIfInBounds_toArray, List.set_cons_zero, List.set_cons_succ, i64_w, i32_w]
    rfl
  refine pure_ (i := 4) (N := some 24) (v := ?_) (a' := ?_) #[true, true, true, true, true, false, false, false] rfl rfl (by kernel_rfl) (fun _ _ _ h => h) (Or.inl ⟨by rfl, ?_⟩) ?_ ?_
  rotate_left
  · intro w'
    go_simp
    with_reducible rfl
  rotate_left
  · simp only [Act.put, List.setIfInBounds_toArray, List.set_cons_zero, List.set_cons_succ, i64_w, i32_w]
    rfl
  refine pure_ (i := 5) (N := some 25) (v := ?_) (a' := ?_) #[true, true, true, true, true, true, false, false] rfl rfl (by kernel_rfl) (fun _ _ _ h => h) (Or.inl ⟨by rfl, ?_⟩) ?_ ?_
  rotate_left
  · intro w'
    go_simp
    with_reducible rfl
  rotate_left
  · simp only [Act.put, List.setIfInBounds_toArray, List.set_cons_zero, List.set_cons_succ, i64_w, i32_w]
    rfl
  refine last_ (i := 6) (N := some 26) #[true, true, true, true, true, true, true, false] rfl rfl (by kernel_rfl) (by decide) (fun K hK => ?_)
  refine Kd.R_delete_step k25 (w0 := w) base (by rfl) (.tmp 22) (.tmp 25) 28 25 rfl Tryd.underlying28 (by kernel_rfl) (g := g) (n := xs.length) (c := c) (k := k) rfl rfl ?hA ?hm HD hk HBD hbD ?_
  (case hA => simp only [Option.map_some, Addr.add, Nat.zero_add]; rfl)
  (case hm => rfl)
  intro w2 ho2 hb2 hg2
  refine hK.out _ _ ?_
  clear hK K
  refine norm_ (a' := ?_) ?_ ?_
  rotate_left
  · show Act.put _ (some 26) _ = _
    simp only [Act.put, List.setIfInBounds_toArray, List.set_cons_zero, List.set_cons_succ, i64_w, i32_w]
    rfl
  refine pure_ (i := 7) (N := some 0) (v := ?_) (a' := ?_) #[true, true, true, true, true, true, true, true] rfl rfl (by kernel_rfl) (fun _ _ _ h => h) (Or.inl ⟨by rfl, ?_⟩) ?_ ?_
  rotate_left
  · intro w'
    go_simp
    with_reducible rfl
  rotate_left
  · simp only [Act.put, List.setIfInBounds_toArray, List.set_cons_zero, List.set_cons_succ, i64_w, i32_w]
    rfl
  refine done_ (by kernel_rfl) ?_
  have hlen : (xs.eraseIdx k).length = xs.length - 1 := List.length_eraseIdx_of_lt hk
  have R1 := R_beyond ho2 hlen ((xs.length - 1) * 3) (Nat.le_refl _) (.int .i64 0)
  have R2 := R_beyond R1.1 hlen ((xs.length - 1) * 3 + 1) (by omega) (.string ⟨#[]⟩)
  have R3 := R_beyond R2.1 hlen ((xs.length - 1) * 3 + 1 + 1) (by omega) (.int .i64 0)
  have hcl := fun c' => clear_one w2 g ((xs.length - 1) * 3) (xs.length - (xs.length - 1)) c' (by omega) (fun j hj => (R_cell ho2 _ (by omega)).1) (fun j hj => (R_cell ho2 _ (by omega)).2)
  have HR3 := Lib.hid (And.intro R3.1 (((R1.2.trans R2.2).trans R3.2)))
  clear R1 R2 R3
  have hgd : w.grownBy w.drew (some g) := ⟨rfl, rfl, rfl, Nat.le_refl _, fun _ _ _ => rfl⟩
  by_cases hck : c = k + 1
  · subst hck
    go_wp2
    go_ret
    exact ⟨rfl, HR3.out.1, (hgd.trans hg2).trans HR3.out.2⟩
  · go_wp2
    go_ret
    exact ⟨rfl, HR3.out.1, (hgd.trans hg2).trans HR3.out.2⟩
theorem R_own {W : World} {base : Nat} {ok : Nat → Prop} {v : Value} {xs : List S25} (h : Kd.R k25 25 W base ok v xs) (hn : 0 < xs.length) : ∃ g c, v = .slice (some ⟨g, 0, none⟩) xs.length c ∧ base ≤ g := by
  obtain ⟨h0, inner, hown, hr⟩ := h
  rcases hown.2 with ⟨_, hv⟩ | ⟨g', cap', cur, hv, hb, _⟩
  · omega
  · exact ⟨g', cap', hv, hb⟩
def dropB (l : List S25) (name : ByteArray) : List S25 × Int :=
  if 0 ≤ findI l name then (if l.length = 1 then ([], 191) else (l.eraseIdx (findI l name).toNat, 0)) else ([], 121)
def schema_Schema_Drop.f (l0 : List S25) (a1 : ByteArray) : Option (List S25 × Int) := if l0.length ≤ 1000000 then some (dropB l0 a1) else none
theorem idxFrom_lt (p : S25 → Bool) (x : S25) : ∀ (l : List S25) (i : Nat), 0 ≤ Lib.idxByFrom (fun _ y => p y) x l i → (i : Int) ≤ Lib.idxByFrom (fun _ y => p y) x l i ∧ Lib.idxByFrom (fun _ y => p y) x l i < ((i + l.length : Nat) : Int) := by
  intro l
  induction l with
  | nil => intro i h; simp [Lib.idxByFrom] at h
  | cons y l ih =>
    intro i h
    rw [Lib.idxByFrom] at h ⊢
    by_cases hp : p y = true
    · rw [if_pos hp] at h ⊢
      constructor
      · omega
      · simp only [List.length_cons]; omega
    · rw [if_neg hp] at h ⊢
      have := ih (i + 1) h
      simp only [List.length_cons]
      omega
theorem findI_lt (l : List S25) (name : ByteArray) (h : 0 ≤ findI l name) : (findI l name).toNat < l.length := by
  have := idxFrom_lt (fun x => x.f1.toList == name.toList) default l 0 h
  have e : findI l name = Lib.idxByFrom (fun _ y => y.f1.toList == name.toList) default l 0 := rfl
  omega
set_option maxRecDepth 100000 in
set_option maxHeartbeats 8000000 in
theorem schema_Schema_Drop.calls (A0 : Option Addr) (c0 : Nat) (l0 : List S25) (a1 : ByteArray) (r1 : List S25) (r2 : Int) (w : World) (hr0 : Kd.C k25 w A0 l0.length l0) (hc0 : l0.length ≤ c0) (h : schema_Schema_Drop.f l0 a1 = some (r1, r2)) :
    Calls Tryd.prog 10 #[.slice A0 l0.length c0, .string a1] w fun e w' => ∃ v0_ : Value, e = .returned (.tuple #[v0_, .int .i64 r2]) ∧ Kd.R k25 25 w' w.heap.size (fun _ => True) v0_ r1 ∧ Below w.heap.size w w' := by
  unfold schema_Schema_Drop.f at h
  by_cases hz : l0.length ≤ 1000000
  case neg => rw [if_neg hz] at h; cases h
  rw [if_pos hz] at h
  have hF := fun (W : World) (hb : Below w.heap.size w W) => schema_Schema_Find.calls A0 c0 l0 a1 (max (findI l0 a1) 0) (decide (0 ≤ findI l0 a1)) W (Kd.C_below hr0 hb) hc0 rfl
  have hCl := fun (W : World) (hb : Below w.heap.size w W) => slices_Clone.calls A0 c0 l0 l0 W (Kd.C_below hr0 hb) hc0 (by unfold slices_Clone.f; rw [if_pos hz])
  have h2 := Option.some.inj h
  have hlt := findI_lt l0 a1
  clear h
  unfold dropB at h2
  generalize findI l0 a1 = I at *
  clear hr0
  by_cases hI : 0 ≤ I
  · have hd : decide (0 ≤ I) = true := decide_eq_true hI
    rw [hd] at hF
    rw [if_pos hI] at h2
    by_cases h1 : l0.length = 1
    · rw [if_pos h1] at h2
      obtain ⟨rfl, rfl⟩ := Prod.mk.inj h2
      have d1 : ((l0.length : Int) == 1) = true := beq_iff_eq.2 (by omega)
      clear h1
      go_enter Tryd.func10, Tryd.ntmps10
      go_wp2_with (go_at_call 18; refine (hF _ ?hb).mono ?_; (case hb => exact Below.refl _ _); rintro e w2 ⟨rfl, hb2⟩)
      go_ret2
      exact ⟨_, rfl, Kd.R_nil _ _ _ _ _, hb2⟩
    · rw [if_neg h1] at h2
      obtain ⟨rfl, rfl⟩ := Prod.mk.inj h2
      have d1 : ((l0.length : Int) == 1) = false := beq_eq_false_iff_ne.2 (by omega)
      obtain ⟨k, hk⟩ : ∃ k : Nat, I = (k : Int) := ⟨I.toNat, by omega⟩
      subst hk
      have hkl := hlt (by omega)
      rw [Int.toNat_natCast] at hkl ⊢
      have hmx : max (k : Int) 0 = (k : Int) := by omega
      rw [hmx] at hF
      go_enter Tryd.func10, Tryd.ntmps10
      go_wp2_with (go_at_call 18; refine (hF _ ?hb).mono ?_; (case hb => exact Below.refl _ _); rintro e w2 ⟨rfl, hb2⟩)
      refine (hCl _ ?hb).mono ?_
      case hb => exact hb2
      rintro e w5 ⟨v5, rfl, hR5, hb5⟩
      obtain ⟨g, c, rfl, hg⟩ := R_own hR5 (by omega)
      have hD := delete_own g c k _ l0 _ w5 hR5 hkl hb5.size
      have hB5 : Below w.heap.size w w5 := hb2.trans (hb5.mono hb2.size)
      clear hCl hF hR5
      go_wp2_with fail
      refine hD.mono ?_
      rintro e w6 ⟨rfl, hR6, hg6⟩
      have HR6 := Lib.hid (Kd.R_lower hR6 hb2.size)
      have HB6 := Lib.hid (hB5.grown hg6 hB5.size (by intro j hj; injection hj with hj; subst hj; exact Nat.le_trans hb2.size hg))
      clear hR6 hg6
      go_wp2
      go_ret2
      exact ⟨_, rfl, HR6.out, HB6.out⟩
  · have hd : decide (0 ≤ I) = false := decide_eq_false hI
    rw [hd] at hF
    rw [if_neg hI] at h2
    obtain ⟨rfl, rfl⟩ := Prod.mk.inj h2
    go_enter Tryd.func10, Tryd.ntmps10
    go_wp2_with (go_at_call 18; refine (hF _ ?hb).mono ?_; (case hb => exact Below.refl _ _); rintro e w2 ⟨rfl, hb2⟩)
    go_ret2
    exact ⟨_, rfl, Kd.R_nil _ _ _ _ _, hb2⟩
end Go.Proofs.YtkggdnnhgafopaaDoor
