/- The live question walked: it answers true. -/
import Derived.Test.YtkggdnnhgafopaaDoorPl2
set_option linter.unusedVariables false
set_option linter.unusedSimpArgs false
namespace Go.Proofs.YtkggdnnhgafopaaDoor
open Go.RowKit Go.Lib Go.Shelf Go.Proofs.YtkggdnnhgafopaaDoorW.PrintWords Go.Proofs.YtkggdnnhgafopaaDoorW.PrintLast Go.Proofs.YtkggdnnhgafopaaDoorW.PrintMore Go.Proofs.YtkggdnnhgafopaaDoor.Kp Go.Proofs.YtkggdnnhgafopaaDoor.Gp Go.Proofs.YtkggdnnhgafopaaDoor.Jp Go.Proofs.YtkggdnnhgafopaaDoor.Lp
theorem R_slice {W : World} {base : Nat} {v : Value} {xs : List S25} (h : Kd.R k25 25 W base (fun _ => True) v xs) : ∃ A c, v = .slice A xs.length c ∧ xs.length ≤ c ∧ Kd.C k25 W A xs.length xs := by
  obtain ⟨A, c, rfl⟩ := Kd.R_slice h
  exact ⟨A, c, rfl, (Kd.R_reads' h).2.1, (Kd.R_reads' h).2.2⟩
def aliveT : List S25 := [⟨3, ⟨#[97]⟩, 3⟩, ⟨1, ⟨#[98]⟩, 4⟩]
theorem alive_lit (W : World) : Kd.C k25 (W.alloc (.cells #[.int .i64 3, .string ⟨#[97]⟩, .int .i64 2, .int .i64 1, .string ⟨#[98]⟩, .int .i64 4] 25)) (some ⟨W.heap.size, 0, none⟩) 2 aliveS := by
  refine ⟨rfl, by decide, fun _ => ⟨⟨W.heap.size, 0, none⟩, rfl, fun j y hy => ?_⟩⟩
  match j, hy with
  | 0, hy =>
    cases hy
    refine ⟨[.int .i64 3, .string ⟨#[97]⟩, .int .i64 2], rfl, k25_mk _ ⟨3, ⟨#[97]⟩, 2⟩, fun i u hu => ?_⟩
    match i, hu with
    | 0, hu => cases hu; simp [Addr.add, show k25.sz = 3 from rfl]
    | 1, hu => cases hu; simp [Addr.add, show k25.sz = 3 from rfl]
    | 2, hu => cases hu; simp [Addr.add, show k25.sz = 3 from rfl]
  | 1, hy =>
    cases hy
    refine ⟨[.int .i64 1, .string ⟨#[98]⟩, .int .i64 4], rfl, k25_mk _ ⟨1, ⟨#[98]⟩, 4⟩, fun i u hu => ?_⟩
    match i, hu with
    | 0, hu => cases hu; simp [Addr.add, show k25.sz = 3 from rfl]
    | 1, hu => cases hu; simp [Addr.add, show k25.sz = 3 from rfl]
    | 2, hu => cases hu; simp [Addr.add, show k25.sz = 3 from rfl]
  | j + 2, hy => cases hy
/-- Rows that lie there still. -/
def Held (w : World) (W : World) (ps : List (Option Addr × List S25)) : Prop := Below w.heap.size w W ∧ ∀ p ∈ ps, Kd.C k25 W p.1 p.2.length p.2
theorem held_below {w W W2 : World} {ps : List (Option Addr × List S25)} (h : Held w W ps) (hb : Below W.heap.size W W2) : Held w W2 ps :=
  ⟨h.1.trans (hb.mono h.1.size), fun p hp => Kd.C_below (h.2 p hp) hb⟩
theorem held_add {w W W2 : World} {ps : List (Option Addr × List S25)} (h : Held w W ps) (hb : Below W.heap.size W W2) {A : Option Addr} {l : List S25} (hC : Kd.C k25 W2 A l.length l) : Held w W2 ((A, l) :: ps) :=
  ⟨h.1.trans (hb.mono h.1.size), fun p hp => by
    rcases List.mem_cons.1 hp with rfl | hp
    · exact hC
    · exact Kd.C_below (h.2 p hp) hb⟩
theorem held_at {w W : World} {ps : List (Option Addr × List S25)} (h : Held w W ps) {A : Option Addr} {l : List S25} (hm : (A, l) ∈ ps) : Kd.C k25 W A l.length l := h.2 _ hm
set_option maxRecDepth 100000 in
set_option maxHeartbeats 8000000 in
theorem aliveC (w : World) : Calls Tryd.prog 7 #[] w fun e w' => e = .returned (.bool true) ∧ Below w.heap.size w w' := by
  have hw : schema_Schema_Widen.f 1000010 aliveS ⟨#[97]⟩ 3 = some (aliveT, 0) := (widen aliveS _ 3 (by decide) _ (by omega)).trans (congrArg some widen_alive)
  have hr : schema_Schema_Rename.f 1000010 aliveS ⟨#[97]⟩ ⟨#[98]⟩ = some ([], 122) := (rename aliveS _ _ (by decide) (by decide) _ (Nat.le_refl _)).trans (congrArg some rename_alive)
  have hf : schema_Schema_Find.f aliveS ⟨#[98]⟩ = some (1, true) := by unfold schema_Schema_Find.f; rw [find_b]; rfl
  have hg : schema_Schema_Right.f aliveS = some true := by unfold schema_Schema_Right.f; rw [if_pos (by decide), right_alive]
  have hs : schema_Show.f 1000010 aliveT = some (⟨#[97, 32, 105, 110, 116, 54, 52, 44, 32, 98, 32, 116, 101, 120, 116]⟩ : ByteArray) := by
    rw [show_f _ (by decide) (by decide) _ (by decide)]
    rfl
  have hn1 : schema_Name.f 1000010 ⟨#[97, 110, 100]⟩ = some false := (name_f _ (by decide) _ (Nat.le_refl _)).trans (congrArg some name_and)
  have hn2 : schema_Name.f 1000010 ⟨#[98, 95, 49]⟩ = some true := (name_f _ (by decide) _ (Nat.le_refl _)).trans (congrArg some name_b1)
  have cw := fun (W : World) A (h : Kd.C k25 W A 2 aliveS) => schema_Schema_Widen.calls _ A 2 aliveS ⟨#[97]⟩ 3 _ _ W h (Nat.le_refl _) hw
  have cr := fun (W : World) A (h : Kd.C k25 W A 2 aliveS) => schema_Schema_Rename.calls _ A 2 aliveS ⟨#[97]⟩ ⟨#[98]⟩ _ _ W h (Nat.le_refl _) hr
  have cf := fun (W : World) A (h : Kd.C k25 W A 2 aliveS) => schema_Schema_Find.calls A 2 aliveS ⟨#[98]⟩ _ _ W h (Nat.le_refl _) hf
  have cg := fun (W : World) A (h : Kd.C k25 W A 2 aliveS) => schema_Schema_Right.calls A 2 aliveS _ W h (Nat.le_refl _) hg
  have cs := fun (W : World) A c (h : Kd.C k25 W A 2 aliveT) (hc : 2 ≤ c) => schema_Show.calls _ A c aliveT _ W h hc hs
  have cn1 := fun (W : World) => schema_Name.calls _ _ _ W hn1
  have cn2 := fun (W : World) => schema_Name.calls _ _ _ W hn2
  have T := Lib.hid (show Held w (w.alloc (.cells #[.int .i64 3, .string ⟨#[97]⟩, .int .i64 2, .int .i64 1, .string ⟨#[98]⟩, .int .i64 4] 25)) [(some ⟨w.heap.size, 0, none⟩, aliveS)] from ⟨(Below.refl _ w).alloc (Nat.le_refl _) _, fun p hp => by rcases List.mem_cons.1 hp with rfl | hp; exact alive_lit w; cases hp⟩)
  clear hw hr hf hg hs hn1 hn2
  obtain ⟨at2, hat⟩ : ∃ l, l = aliveT := ⟨_, rfl⟩
  obtain ⟨as2, has⟩ : ∃ l, l = aliveS := ⟨_, rfl⟩
  have e2 : as2.length = 2 := by rw [has]; rfl
  have e2' : at2.length = 2 := by rw [hat]; rfl
  rw [← has] at cw cr cf cg T
  rw [← hat] at cw cs
  rw [e2] at cw cr cf cg
  rw [e2'] at cs
  clear has hat
  go_enter Tryd.func7, Tryd.ntmps7
  go_wp2_with (first | (go_at_call 14; refine (cw _ _ ?hC).mono ?_; (case hC => rw [← e2]; exact held_at T.out (by simp)); rintro e w2 ⟨v0, rfl, hR, hb⟩; obtain ⟨B1, c1, rfl, hc1, hC1⟩ := R_slice hR; have T := Lib.hid (held_add T.out hb hC1); clear hb hR hC1) | (go_at_call 12; refine (cr _ _ ?hC).mono ?_; (case hC => rw [← e2]; exact held_at T.out (by simp)); rintro e w2 ⟨v0, rfl, hR, hb⟩; have T := Lib.hid (held_below T.out hb); clear hb hR) | (go_at_call 18; refine (cf _ _ ?hC).mono ?_; (case hC => rw [← e2]; exact held_at T.out (by simp)); rintro e w2 ⟨rfl, hb⟩; have T := Lib.hid (held_below T.out hb); clear hb) | (go_at_call 17; refine (cg _ _ ?hC).mono ?_; (case hC => rw [← e2]; exact held_at T.out (by simp)); rintro e w2 ⟨rfl, hb⟩; have T := Lib.hid (held_below T.out hb); clear hb) | (go_at_call 24; refine (cs _ _ _ ?hC ?hc).mono ?_; (case hC => rw [← e2']; exact held_at T.out (by simp)); (case hc => rw [← e2']; exact hc1); rintro e w2 ⟨rfl, hb⟩; have T := Lib.hid (held_below T.out hb); clear hb) | (go_at_call_of 28 (Value.string ⟨#[97, 110, 100]⟩); refine (cn1 _).mono ?_; rintro e w2 ⟨rfl, hb⟩; have T := Lib.hid (held_below T.out hb); clear hb) | (go_at_call_of 28 (Value.string ⟨#[98, 95, 49]⟩); refine (cn2 _).mono ?_; rintro e w2 ⟨rfl, hb⟩; have T := Lib.hid (held_below T.out hb); clear hb))
  go_ret
  exact ⟨rfl, T.out.1⟩
end Go.Proofs.YtkggdnnhgafopaaDoor
