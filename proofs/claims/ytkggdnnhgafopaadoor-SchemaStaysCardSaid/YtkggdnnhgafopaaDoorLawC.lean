/- SchemaChanges walked: for every list of columns, every column and every text it answers true. -/
import Derived.Test.YtkggdnnhgafopaaDoorAlive
set_option linter.unusedVariables false
set_option linter.unusedSimpArgs false
namespace Go.Proofs.YtkggdnnhgafopaaDoor
open Go.RowKit Go.Lib Go.Shelf Go.Proofs.YtkggdnnhgafopaaDoorW.PrintWords Go.Proofs.YtkggdnnhgafopaaDoorW.PrintLast Go.Proofs.YtkggdnnhgafopaaDoorW.PrintMore Go.Proofs.YtkggdnnhgafopaaDoor.Kp Go.Proofs.YtkggdnnhgafopaaDoor.Gp Go.Proofs.YtkggdnnhgafopaaDoor.Jp Go.Proofs.YtkggdnnhgafopaaDoor.Lp
/-- What has been laid lies there still: the boxed column, and some rows. -/
def Hold (w : World) (x : S25) (W : World) (ps : List (Option Addr × List S25)) : Prop := Boxed w x.f0 x.f1 x.f2 W ∧ ∀ p ∈ ps, Kd.C k25 W p.1 p.2.length p.2
theorem hold_below {w W W2 : World} {x : S25} {ps : List (Option Addr × List S25)} (h : Hold w x W ps) (hb : Below W.heap.size W W2) : Hold w x W2 ps :=
  ⟨boxed_below h.1 hb, fun p hp => Kd.C_below (h.2 p hp) hb⟩
theorem hold_add {w W W2 : World} {x : S25} {ps : List (Option Addr × List S25)} (h : Hold w x W ps) (hb : Below W.heap.size W W2) {A : Option Addr} {l : List S25} (hC : Kd.C k25 W2 A l.length l) : Hold w x W2 ((A, l) :: ps) :=
  ⟨boxed_below h.1 hb, fun p hp => by
    rcases List.mem_cons.1 hp with rfl | hp
    · exact hC
    · exact Kd.C_below (h.2 p hp) hb⟩
theorem hold_drew {w W : World} {x : S25} {ps : List (Option Addr × List S25)} (h : Hold w x W ps) : Hold w x W.drew ps := hold_below h (below_drew (Below.refl _ _))
theorem hold_at {w W : World} {x : S25} {ps : List (Option Addr × List S25)} (h : Hold w x W ps) {A : Option Addr} {l : List S25} (hm : (A, l) ∈ ps) : Kd.C k25 W A l.length l := h.2 _ hm
theorem addC (A0 : Option Addr) (c0 : Nat) (l0 : List S25) (x : S25) (hc0 : l0.length ≤ c0) (hz : x.f1.size ≤ 1000000) (W : World) (h : Kd.C k25 W A0 l0.length l0) :
    Calls Tryd.prog 8 #[.slice A0 l0.length c0, .agg #[.int .i64 x.f0, .string x.f1, .int .i64 x.f2]] W fun e w' => ∃ A c, e = .returned (.tuple #[.slice A (addB l0 x).1.length c, .int .i64 (addB l0 x).2]) ∧ (addB l0 x).1.length ≤ c ∧ Kd.C k25 w' A (addB l0 x).1.length (addB l0 x).1 ∧ Below W.heap.size W w' :=
  (schema_Schema_Add.calls A0 c0 l0 x.f0 x.f1 x.f2 (addB l0 x).1 (addB l0 x).2 W h hc0 (by unfold schema_Schema_Add.f; rw [if_pos hz])).mono (by
    rintro e w' ⟨v, rfl, hR, hb⟩
    obtain ⟨A, c, rfl, h1, h2⟩ := R_slice hR
    exact ⟨A, c, rfl, h1, h2, hb⟩)
theorem refaddC (A0 : Option Addr) (c0 : Nat) (l0 : List S25) (x : S25) (hc0 : l0.length ≤ c0) (hl : l0.length ≤ 1000) (hz : x.f1.size ≤ 1000000) (W : World) (h : Kd.C k25 W A0 l0.length l0) :
    Calls Tryd.prog 9 #[.slice A0 l0.length c0, .agg #[.int .i64 x.f0, .string x.f1, .int .i64 x.f2]] W fun e w' => ∃ A c, e = .returned (.tuple #[.slice A (addB l0 x).1.length c, .int .i64 (addB l0 x).2]) ∧ (addB l0 x).1.length ≤ c ∧ Kd.C k25 w' A (addB l0 x).1.length (addB l0 x).1 ∧ Below W.heap.size W w' :=
  (instarref12_Add.calls 3000010 A0 c0 l0 x.f0 x.f1 x.f2 (addB l0 x).1 (addB l0 x).2 W h hc0 (refadd l0 x hl hz _ (Nat.le_refl _))).mono (by
    rintro e w' ⟨v, rfl, hR, hb⟩
    obtain ⟨A, c, rfl, h1, h2⟩ := R_slice hR
    exact ⟨A, c, rfl, h1, h2, hb⟩)
theorem dropC (A0 : Option Addr) (c0 : Nat) (l0 : List S25) (s : ByteArray) (hc0 : l0.length ≤ c0) (hl : l0.length ≤ 1000) (W : World) (h : Kd.C k25 W A0 l0.length l0) :
    Calls Tryd.prog 10 #[.slice A0 l0.length c0, .string s] W fun e w' => ∃ A c, e = .returned (.tuple #[.slice A (dropB l0 s).1.length c, .int .i64 (dropB l0 s).2]) ∧ (dropB l0 s).1.length ≤ c ∧ Kd.C k25 w' A (dropB l0 s).1.length (dropB l0 s).1 ∧ Below W.heap.size W w' :=
  (schema_Schema_Drop.calls A0 c0 l0 s (dropB l0 s).1 (dropB l0 s).2 W h hc0 (by unfold schema_Schema_Drop.f; rw [if_pos (by omega)])).mono (by
    rintro e w' ⟨v, rfl, hR, hb⟩
    obtain ⟨A, c, rfl, h1, h2⟩ := R_slice hR
    exact ⟨A, c, rfl, h1, h2, hb⟩)
theorem refdropC (A0 : Option Addr) (c0 : Nat) (l0 : List S25) (s : ByteArray) (hc0 : l0.length ≤ c0) (hl : l0.length ≤ 1000) (W : World) (h : Kd.C k25 W A0 l0.length l0) :
    Calls Tryd.prog 11 #[.slice A0 l0.length c0, .string s] W fun e w' => ∃ A c, e = .returned (.tuple #[.slice A (dropB l0 s).1.length c, .int .i64 (dropB l0 s).2]) ∧ (dropB l0 s).1.length ≤ c ∧ Kd.C k25 w' A (dropB l0 s).1.length (dropB l0 s).1 ∧ Below W.heap.size W w' :=
  (instarref12_Drop.calls 1010 A0 c0 l0 s (dropB l0 s).1 (dropB l0 s).2 W h hc0 (refdrop l0 s hl _ (by omega))).mono (by
    rintro e w' ⟨v, rfl, hR, hb⟩
    obtain ⟨A, c, rfl, h1, h2⟩ := R_slice hR
    exact ⟨A, c, rfl, h1, h2, hb⟩)
theorem renameC (A0 : Option Addr) (c0 : Nat) (l0 : List S25) (s t : ByteArray) (hc0 : l0.length ≤ c0) (hl : l0.length ≤ 1000) (hz : t.size ≤ 1000000) (W : World) (h : Kd.C k25 W A0 l0.length l0) :
    Calls Tryd.prog 12 #[.slice A0 l0.length c0, .string s, .string t] W fun e w' => ∃ A c, e = .returned (.tuple #[.slice A (renameB l0 s t).1.length c, .int .i64 (renameB l0 s t).2]) ∧ (renameB l0 s t).1.length ≤ c ∧ Kd.C k25 w' A (renameB l0 s t).1.length (renameB l0 s t).1 ∧ Below W.heap.size W w' :=
  (schema_Schema_Rename.calls 3000010 A0 c0 l0 s t (renameB l0 s t).1 (renameB l0 s t).2 W h hc0 (rename l0 s t hl hz _ (by omega))).mono (by
    rintro e w' ⟨v, rfl, hR, hb⟩
    obtain ⟨A, c, rfl, h1, h2⟩ := R_slice hR
    exact ⟨A, c, rfl, h1, h2, hb⟩)
theorem refrenameC (A0 : Option Addr) (c0 : Nat) (l0 : List S25) (s t : ByteArray) (hc0 : l0.length ≤ c0) (hl : l0.length ≤ 1000) (hz : t.size ≤ 1000000) (W : World) (h : Kd.C k25 W A0 l0.length l0) :
    Calls Tryd.prog 13 #[.slice A0 l0.length c0, .string s, .string t] W fun e w' => ∃ A c, e = .returned (.tuple #[.slice A (renameB l0 s t).1.length c, .int .i64 (renameB l0 s t).2]) ∧ (renameB l0 s t).1.length ≤ c ∧ Kd.C k25 w' A (renameB l0 s t).1.length (renameB l0 s t).1 ∧ Below W.heap.size W w' :=
  (instarref12_Rename.calls 3000010 A0 c0 l0 s t (renameB l0 s t).1 (renameB l0 s t).2 W h hc0 (refrename l0 s t hl hz _ (Nat.le_refl _))).mono (by
    rintro e w' ⟨v, rfl, hR, hb⟩
    obtain ⟨A, c, rfl, h1, h2⟩ := R_slice hR
    exact ⟨A, c, rfl, h1, h2, hb⟩)
theorem widenC (A0 : Option Addr) (c0 : Nat) (l0 : List S25) (s : ByteArray) (k : Int) (hc0 : l0.length ≤ c0) (hl : l0.length ≤ 1000) (W : World) (h : Kd.C k25 W A0 l0.length l0) :
    Calls Tryd.prog 14 #[.slice A0 l0.length c0, .string s, .int .i64 k] W fun e w' => ∃ A c, e = .returned (.tuple #[.slice A (widenB l0 s k).1.length c, .int .i64 (widenB l0 s k).2]) ∧ (widenB l0 s k).1.length ≤ c ∧ Kd.C k25 w' A (widenB l0 s k).1.length (widenB l0 s k).1 ∧ Below W.heap.size W w' :=
  (schema_Schema_Widen.calls 1010 A0 c0 l0 s k (widenB l0 s k).1 (widenB l0 s k).2 W h hc0 (widen l0 s k hl _ (by omega))).mono (by
    rintro e w' ⟨v, rfl, hR, hb⟩
    obtain ⟨A, c, rfl, h1, h2⟩ := R_slice hR
    exact ⟨A, c, rfl, h1, h2, hb⟩)
theorem refwidenC (A0 : Option Addr) (c0 : Nat) (l0 : List S25) (s : ByteArray) (k : Int) (hc0 : l0.length ≤ c0) (hl : l0.length ≤ 1000) (W : World) (h : Kd.C k25 W A0 l0.length l0) :
    Calls Tryd.prog 15 #[.slice A0 l0.length c0, .string s, .int .i64 k] W fun e w' => ∃ A c, e = .returned (.tuple #[.slice A (widenB l0 s k).1.length c, .int .i64 (widenB l0 s k).2]) ∧ (widenB l0 s k).1.length ≤ c ∧ Kd.C k25 w' A (widenB l0 s k).1.length (widenB l0 s k).1 ∧ Below W.heap.size W w' :=
  (instarref12_Widen.calls 1010 A0 c0 l0 s k (widenB l0 s k).1 (widenB l0 s k).2 W h hc0 (refwiden l0 s k hl _ (by omega))).mono (by
    rintro e w' ⟨v, rfl, hR, hb⟩
    obtain ⟨A, c, rfl, h1, h2⟩ := R_slice hR
    exact ⟨A, c, rfl, h1, h2, hb⟩)
theorem sameC (A B : Option Addr) (c d : Nat) (l : List S25) (hc : l.length ≤ c) (hd : l.length ≤ d) (hl : l.length ≤ 1000) (W : World) (h : Kd.C k25 W A l.length l) (h' : Kd.C k25 W B l.length l) :
    Calls Tryd.prog 16 #[.slice A l.length c, .slice B l.length d] W fun e w' => e = .returned (.bool true) ∧ Below W.heap.size W w' :=
  (instarref12_Same.calls 1010 A c l B d l true W h hc h' hd (same_f l (by omega) _ (by omega))).mono (by
    rintro e w' ⟨rfl, n, rfl⟩
    exact ⟨rfl, below_drews _ _⟩)
theorem smallC (A0 : Option Addr) (c0 : Nat) (l0 : List S25) (hc0 : l0.length ≤ c0) (W : World) (h : Kd.C k25 W A0 l0.length l0) :
    Calls Tryd.prog 6 #[.slice A0 l0.length c0] W fun e w' => e = .returned (.bool (smallB l0)) ∧ Below W.heap.size W w' :=
  (instarlaw12_Small.calls 50 A0 c0 l0 (smallB l0) W h hc0 (small_f l0 _ (Nat.le_refl _))).mono (by
    rintro e w' ⟨rfl, n, rfl⟩
    exact ⟨rfl, below_drews _ _⟩)
end Go.Proofs.YtkggdnnhgafopaaDoor
