/- A schema's columns are gone through: the place of a column, and whether one is there; for every list of columns. -/
import Derived.Test.YtkggdnnhgafopaaDoorG
set_option linter.unusedVariables false
set_option linter.unusedSimpArgs false
namespace Go.Proofs.YtkggdnnhgafopaaDoor
open Go.RowKit Go.Lib Go.Shelf Go.Proofs.YtkggdnnhgafopaaDoorW.PrintWords Go.Proofs.YtkggdnnhgafopaaDoor.Kp
instance : Inhabited S25 := ⟨z25⟩
def encCol (x : S25) : List Value := [.int .i64 x.f0, .string x.f1, .int .i64 x.f2]
theorem cols_at {w : World} {A : Option Addr} {l : List S25} (hC : Kd.C k25 w A l.length l) (hl : 0 < l.length) :
    ∃ b off, A = some ⟨b, off, none⟩ ∧ b < w.heap.size ∧ ∀ j, j < l.length → ∀ i v, (encCol l[j]!)[i]? = some v → w.cell? ⟨b, off + j * 3 + i, none⟩ = some v := by
  obtain ⟨_, _, h⟩ := hC
  obtain ⟨ad, rfl, hc⟩ := h hl
  have cell : ∀ j, j < l.length → ∀ i v, (encCol l[j]!)[i]? = some v → w.cell? (ad.add (j * 3 + i)) = some v := by
    intro j hj i v hv
    obtain ⟨c, hcs, hK, hcell⟩ := hc j l[j] (List.getElem?_eq_getElem hj)
    have e := k25_open hK
    rw [getElem!_pos l j hj] at hv
    exact hcell i v (by rw [e]; exact hv)
  have h0 := cell 0 hl 0 _ rfl
  have hs : ad.spot = none := by simpa [Addr.add] using World.cell?_spot h0
  have hb : ad.block < w.heap.size := by
    rcases Nat.lt_or_ge ad.block w.heap.size with h | h
    · exact h
    · exfalso
      rw [World.cell?, Array.getElem?_eq_none (by simpa [Addr.add] using h)] at h0
      simp at h0
  obtain ⟨b, off, spot⟩ := ad
  simp only at hs hb
  subst hs
  refine ⟨b, off, rfl, hb, fun j hj i v hv => ?_⟩
  have := cell j hj i v hv
  rw [show (⟨b, off + j * 3 + i, none⟩ : Addr) = (⟨b, off, none⟩ : Addr).add (j * 3 + i) by simp [Addr.add, Nat.add_assoc]]
  exact this
set_option maxRecDepth 100000 in
set_option maxHeartbeats 4000000 in
theorem index_none (A : Option Addr) (c : Nat) (fv : Value) (w : World) :
    Calls Tryd.prog 41 #[.slice A 0 c, fv] w fun e w' => e = .returned (.int .i64 (-1)) ∧ Below w.heap.size w w' := by
  go_enter Tryd.func41, Tryd.ntmps41
  go_wp2
  go_rounds 1
  go_ret
  exact ⟨rfl, by repeat (first | exact Below.refl _ _ | exact below_drews _ _ | apply Below.drew)⟩
/-- The place of the first column of which something holds; -1. -/
def idxCol (p : S25 → Bool) (l : List S25) : Int := Lib.idxBy (fun _ y => p y) l default
theorem index_cols (g : Nat) (lb : Array Value) (eg : ∀ args w, (callFunc g args).run Tryd.prog w = .ok (.enter g args) w) (p : S25 → Bool) (A : Option Addr) (c : Nat) (l : List S25) (w : World) (hC : Kd.C k25 w A l.length l)
    (hp : PredBelow Tryd.prog g lb (fun x => .agg (encCol x).toArray) p w) (hbig : l.length ≤ 9223372036854775807) :
    Calls Tryd.prog 41 #[.slice A l.length c, .func (.func g) #[] lb] w fun e w' => e = .returned (.int .i64 (idxCol p l)) ∧ Below w.heap.size w w' := by
  by_cases hl : 0 < l.length
  · obtain ⟨b, off, rfl, hb, hc⟩ := cols_at hC hl
    have h := AnyQ.slices_IndexFunc Tryd.slIdx 3 Tryd.isAgg25 Tryd.sizeOf25 encCol (fun _ => rfl) p g lb eg b off l.length c l w hp (Nat.le_refl _) hbig hb hc
    rw [List.take_length] at h
    exact h
  · have hn : l = [] := List.eq_nil_of_length_eq_zero (by omega)
    subst hn
    exact index_none A c _ w
set_option maxRecDepth 100000 in
set_option maxHeartbeats 4000000 in
theorem named (name : ByteArray) (B : Nat) (w : World) (hB : B < w.heap.size) (hc : w.cell? ⟨B, 0, none⟩ = some (.string name)) :
    PredBelow Tryd.prog 42 #[.pointer (some ⟨B, 0, none⟩)] (fun x => .agg (encCol x).toArray) (fun x => x.f1.toList == name.toList) w := fun W x hb => by
  have hc' : W.cell? ⟨B, 0, none⟩ = some (.string name) := (hb.cell (p := ⟨B, 0, none⟩) hB).trans hc
  have hBW : B < W.heap.size := Nat.lt_of_lt_of_le hB hb.size
  have hne : B ≠ W.heap.size := by omega
  show Calls Tryd.prog 42 #[.agg #[.int .i64 x.f0, .string x.f1, .int .i64 x.f2], .pointer (some ⟨B, 0, none⟩)] W _
  go_enter Tryd.func42, Tryd.ntmps42
  go_wp2
  all_goals (go_ret; exact ⟨by simp_all, hb.alloc hb.size _⟩)
end Go.Proofs.YtkggdnnhgafopaaDoor
