/- A schema's columns: Find, and a clone: the contracts that their callers are printed over. -/
import Derived.Test.YtkggdnnhgafopaaDoorSch1
set_option linter.unusedVariables false
set_option linter.unusedSimpArgs false
namespace Go.Proofs.YtkggdnnhgafopaaDoor
open Go.RowKit Go.Lib Go.Shelf Go.Proofs.YtkggdnnhgafopaaDoorW.PrintWords Go.Proofs.YtkggdnnhgafopaaDoorW.PrintLast Go.Proofs.YtkggdnnhgafopaaDoorW.PrintMore Go.Proofs.YtkggdnnhgafopaaDoor.Kp
attribute [local go_sem] max2_int min2_int max_two min_two max_three min_three max_four min_four
/-- The place of a name; -1. -/
def findI (l : List S25) (name : ByteArray) : Int := idxCol (fun x => x.f1.toList == name.toList) l
def schema_Schema_Find.f (l0 : List S25) (a1 : ByteArray) : Option (Int × Bool) := some (max (findI l0 a1) 0, decide (0 ≤ findI l0 a1))
theorem e42 : ∀ args w, (callFunc 42 args).run Tryd.prog w = .ok (.enter 42 args) w := enters_of Tryd.func42 (by kernel_rfl) rfl
set_option maxRecDepth 100000 in
set_option maxHeartbeats 4000000 in
theorem schema_Schema_Find.calls (A0 : Option Addr) (c0 : Nat) (l0 : List S25) (a1 : ByteArray) (r1 : Int) (r2 : Bool) (w : World) (hr0 : Kd.C k25 w A0 l0.length l0) (hc0 : l0.length ≤ c0) (h : schema_Schema_Find.f l0 a1 = some (r1, r2)) :
    Calls Tryd.prog 18 #[.slice A0 l0.length c0, .string a1] w fun e w' => e = .returned (.tuple #[.int .i64 r1, .bool r2]) ∧ Below w.heap.size w w' := by
  unfold schema_Schema_Find.f at h
  have h2 := Option.some.inj h
  clear h
  have hbig := hr0.2.1
  have hI := fun (W : World) (hb : Below w.heap.size w W) (hB : w.heap.size < W.heap.size) (hc : W.cell? ⟨w.heap.size, 0, none⟩ = some (.string a1)) =>
    index_cols 42 #[.pointer (some ⟨w.heap.size, 0, none⟩)] e42 (fun x => x.f1.toList == a1.toList) A0 c0 l0 W (Kd.C_below hr0 hb) (named a1 w.heap.size W hB hc) hbig
  have hf : idxCol (fun x => x.f1.toList == a1.toList) l0 = findI l0 a1 := rfl
  rw [hf] at hI
  clear hf
  generalize findI l0 a1 = I at *
  clear hr0 hc0
  obtain ⟨rfl, rfl⟩ := Prod.mk.inj h2
  clear h2
  go_enter Tryd.func18, Tryd.ntmps18
  go_wp2_with (go_at_call 41; refine (hI _ ?hb ?hB ?hc).mono ?_; (case hb => exact (Below.refl _ w).alloc (Nat.le_refl _) _); (case hB => simp); (case hc => simp); rintro e w' ⟨rfl, hb⟩)
  all_goals go_ret2
  all_goals refine ⟨?_, ((Below.refl _ w).alloc (Nat.le_refl _) _).trans (hb.mono (by simp))⟩
  · have e : max I 0 = 0 := by omega
    rw [e]
    rfl
  · have e : max I 0 = I := by omega
    rw [e]
    rfl
end Go.Proofs.YtkggdnnhgafopaaDoor
