/- SchemaStays walked: for every list of columns, every column and every text it answers true. -/
import Derived.Test.YtkggdnnhgafopaaDoorLawE
set_option linter.unusedVariables false
set_option linter.unusedSimpArgs false
namespace Go.Proofs.YtkggdnnhgafopaaDoor
open Go.RowKit Go.Lib Go.Shelf Go.Proofs.YtkggdnnhgafopaaDoorW.PrintWords Go.Proofs.YtkggdnnhgafopaaDoorW.PrintLast Go.Proofs.YtkggdnnhgafopaaDoorW.PrintMore Go.Proofs.YtkggdnnhgafopaaDoor.Kp Go.Proofs.YtkggdnnhgafopaaDoor.Gp Go.Proofs.YtkggdnnhgafopaaDoor.Jp Go.Proofs.YtkggdnnhgafopaaDoor.Lp
attribute [local go_sem high] eqA25
theorem small_parts {l : List S25} (h : smallB l = true) : l.length ≤ 20 ∧ ∀ x ∈ l, x.f1.size ≤ 100 := by
  unfold smallB at h
  rw [Bool.and_eq_true] at h
  exact ⟨of_decide_eq_true h.1, fun x hx => of_decide_eq_true (List.all_eq_true.1 h.2 x hx)⟩
theorem located {W : World} {A : Option Addr} {l : List S25} (hC : Kd.C k25 W A l.length l) (hl : 0 < l.length) : ∃ b o, A = some ⟨b, o, none⟩ := by
  obtain ⟨b, o, h, _⟩ := cols_at hC hl
  exact ⟨b, o, h⟩
theorem cells3 {W : World} {b o : Nat} {l : List S25} (hC : Kd.C k25 W (some ⟨b, o, none⟩) l.length l) (i : Nat) (hi : i < l.length) :
    W.cell? ⟨b, o + i * 3, none⟩ = some (.int .i64 (rd_T25 l i).f0) ∧ W.cell? ⟨b, o + i * 3 + 1, none⟩ = some (.string (rd_T25 l i).f1) ∧ W.cell? ⟨b, o + i * 3 + 2, none⟩ = some (.int .i64 (rd_T25 l i).f2) := by
  obtain ⟨b', o', h, _, hc⟩ := cols_at hC (by omega)
  simp only [Option.some.injEq, Addr.mk.injEq, and_true] at h
  obtain ⟨rfl, rfl⟩ := h
  have e : l[i]! = rd_T25 l i := by rw [getElem!_pos l i hi, rd_at l i hi]
  have := hc i hi
  rw [e] at this
  exact ⟨this 0 _ rfl, this 1 _ rfl, this 2 _ rfl⟩
theorem namesOk_of {l : List S25} (h : ∀ x ∈ l, x.f1.size ≤ 100) : namesOk l = true := List.all_eq_true.2 fun x hx => decide_eq_true (by have := h x hx; omega)
theorem names_add {l : List S25} {c : S25} (h : ∀ x ∈ l, x.f1.size ≤ 100) (hc : c.f1.size ≤ 100) : ∀ x ∈ (addB l c).1, x.f1.size ≤ 100 := by
  unfold addB
  repeat' split
  · intro x hx; cases hx
  · intro x hx; cases hx
  · intro x hx; cases hx
  · intro x hx
    rcases List.mem_append.1 hx with hx | hx
    · exact h x hx
    · simp only [List.mem_cons, List.not_mem_nil, or_false] at hx
      rw [hx]; exact hc
theorem names_drop {l : List S25} {n : ByteArray} (h : ∀ x ∈ l, x.f1.size ≤ 100) : ∀ x ∈ (dropB l n).1, x.f1.size ≤ 100 := by
  unfold dropB
  repeat' split
  · intro x hx; cases hx
  · intro x hx; exact h x ((List.eraseIdx_sublist l _).subset hx)
  · intro x hx; cases hx
theorem rd_mem {l : List S25} {k : Int} (h : ∀ x ∈ l, x.f1.size ≤ 100) : (rd_T25 l k).f1.size ≤ 100 := by
  unfold rd_T25 List.getD
  cases hx : l[k.toNat]? with
  | none => exact Nat.zero_le _
  | some x => exact h x (List.mem_of_getElem? hx)
theorem names_rename {l : List S25} {a b : ByteArray} (h : ∀ x ∈ l, x.f1.size ≤ 100) (hb : b.size ≤ 100) : ∀ x ∈ (renameB l a b).1, x.f1.size ≤ 100 := by
  unfold renameB
  repeat' split
  · intro x hx; cases hx
  · intro x hx
    rcases List.mem_or_eq_of_mem_set hx with hx | rfl
    · exact h x hx
    · exact hb
  · intro x hx; cases hx
  · intro x hx; cases hx
theorem names_widen {l : List S25} {a : ByteArray} {k : Int} (h : ∀ x ∈ l, x.f1.size ≤ 100) : ∀ x ∈ (widenB l a k).1, x.f1.size ≤ 100 := by
  unfold widenB
  repeat' split
  · intro x hx
    rcases List.mem_or_eq_of_mem_set hx with hx | rfl
    · exact h x hx
    · exact rd_mem h
  · intro x hx; cases hx
  · intro x hx; cases hx
  · intro x hx; cases hx
theorem rightC (A : Option Addr) (c : Nat) (l : List S25) (hc : l.length ≤ c) (hn : ∀ x ∈ l, x.f1.size ≤ 100) (hr : rightB l = true) (W : World) (h : Kd.C k25 W A l.length l) :
    Calls Tryd.prog 17 #[.slice A l.length c] W fun e w' => e = .returned (.bool true) ∧ Below W.heap.size W w' :=
  schema_Schema_Right.calls A c l true W h hc (by unfold schema_Schema_Right.f; rw [if_pos (namesOk_of hn), hr])
theorem findC (A : Option Addr) (c : Nat) (l : List S25) (n : ByteArray) (hc : l.length ≤ c) (W : World) (h : Kd.C k25 W A l.length l) :
    Calls Tryd.prog 18 #[.slice A l.length c, .string n] W fun e w' => e = .returned (.tuple #[.int .i64 (max (findI l n) 0), .bool (decide (0 ≤ findI l n))]) ∧ Below W.heap.size W w' :=
  schema_Schema_Find.calls A c l n _ _ W h hc rfl
theorem hold_new {w : World} {A : Option Addr} {l : List S25} (h : Kd.C k25 w A l.length l) (x : S25) : Hold w x (w.alloc (.cells #[.int .i64 x.f0, .string x.f1, .int .i64 x.f2] 25)) [(A, l)] :=
  ⟨boxed_new _ _ _ _, fun p hp => by
    rcases List.mem_cons.1 hp with rfl | hp
    · exact Kd.C_below h ((Below.refl _ w).alloc (Nat.le_refl _) _)
    · cases hp⟩
/-- What the walk of SchemaStays asks of the columns and of what the four changes make of them. -/
structure Facts (c0 b0 o0 : Nat) (l0 : List S25) (x : S25) (t : ByteArray) (la ld lr lw : List S25) (ea ed er ew : Int) (be bf bg bh : Bool) : Prop where
  hl : l0.length ≤ 20
  hl1 : 1 ≤ l0.length
  hx : x.f1.size ≤ 100
  ht : t.size ≤ 100
  h1 : ∀ W, Kd.C k25 W (some ⟨b0, o0, none⟩) l0.length l0 → Calls Tryd.prog 8 #[.slice (some ⟨b0, o0, none⟩) l0.length c0, .agg #[.int .i64 x.f0, .string x.f1, .int .i64 x.f2]] W fun e w' => ∃ A c, e = .returned (.tuple #[.slice A la.length c, .int .i64 ea]) ∧ la.length ≤ c ∧ Kd.C k25 w' A la.length la ∧ Below W.heap.size W w'
  h3 : ∀ W, Kd.C k25 W (some ⟨b0, o0, none⟩) l0.length l0 → Calls Tryd.prog 10 #[.slice (some ⟨b0, o0, none⟩) l0.length c0, .string x.f1] W fun e w' => ∃ A c, e = .returned (.tuple #[.slice A ld.length c, .int .i64 ed]) ∧ ld.length ≤ c ∧ Kd.C k25 w' A ld.length ld ∧ Below W.heap.size W w'
  h5 : ∀ W, Kd.C k25 W (some ⟨b0, o0, none⟩) l0.length l0 → Calls Tryd.prog 12 #[.slice (some ⟨b0, o0, none⟩) l0.length c0, .string x.f1, .string t] W fun e w' => ∃ A c, e = .returned (.tuple #[.slice A lr.length c, .int .i64 er]) ∧ lr.length ≤ c ∧ Kd.C k25 w' A lr.length lr ∧ Below W.heap.size W w'
  h7 : ∀ W, Kd.C k25 W (some ⟨b0, o0, none⟩) l0.length l0 → Calls Tryd.prog 14 #[.slice (some ⟨b0, o0, none⟩) l0.length c0, .string x.f1, .int .i64 x.f2] W fun e w' => ∃ A c, e = .returned (.tuple #[.slice A lw.length c, .int .i64 ew]) ∧ lw.length ≤ c ∧ Kd.C k25 w' A lw.length lw ∧ Below W.heap.size W w'
  hsm : ∀ W, Kd.C k25 W (some ⟨b0, o0, none⟩) l0.length l0 → Calls Tryd.prog 6 #[.slice (some ⟨b0, o0, none⟩) l0.length c0] W fun e w' => e = .returned (.bool true) ∧ Below W.heap.size W w'
  hrt : ∀ W, Kd.C k25 W (some ⟨b0, o0, none⟩) l0.length l0 → Calls Tryd.prog 17 #[.slice (some ⟨b0, o0, none⟩) l0.length c0] W fun e w' => e = .returned (.bool true) ∧ Below W.heap.size W w'
  ee : (ea == 0) = be
  ed0 : (ed == 0) = bf
  eg : (er == 0) = bg
  eh : (ew == 0) = bh
  f1 : be = true → rightB la = true ∧ la.length = l0.length + 1 ∧ rd_T25 la (l0.length : Nat) = x ∧ ∀ i : Nat, i < l0.length → rd_T25 la (i : Nat) = rd_T25 l0 (i : Nat)
  f2 : bf = true → rightB ld = true ∧ ld.length = l0.length - 1
  f3 : bg = true → rightB lr = true ∧ lr.length = l0.length ∧ (∀ i : Nat, i < l0.length → (rd_T25 lr i).f0 = (rd_T25 l0 i).f0) ∧ 0 ≤ findI lr t
  f4 : bh = true → rightB lw = true ∧ lw.length = l0.length ∧ (∀ i : Nat, i < l0.length → (rd_T25 lw i).f0 = (rd_T25 l0 i).f0 ∧ (rd_T25 lw i).f1 = (rd_T25 l0 i).f1)
  n1 : ∀ y ∈ la, y.f1.size ≤ 100
  n2 : ∀ y ∈ ld, y.f1.size ≤ 100
  n3 : ∀ y ∈ lr, y.f1.size ≤ 100
  n4 : ∀ y ∈ lw, y.f1.size ≤ 100
  k2 : decide (0 ≤ findI ld x.f1) = false
  k3 : decide (0 ≤ findI lr x.f1) = false
end Go.Proofs.YtkggdnnhgafopaaDoor
