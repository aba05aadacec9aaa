/- strings.Join in the printer's form: the texts one behind the other, the separator between each two. -/
import Derived.Test.YtkggdnnhgafopaaDoorSch7
set_option linter.unusedVariables false
set_option linter.unusedSimpArgs false
namespace Go.Proofs.YtkggdnnhgafopaaDoor
open Go.RowKit Go.Lib Go.Shelf Go.Proofs.YtkggdnnhgafopaaDoorW.PrintWords Go.Proofs.YtkggdnnhgafopaaDoorW.PrintLast Go.Proofs.YtkggdnnhgafopaaDoorW.PrintMore Go.Proofs.YtkggdnnhgafopaaDoor.Kp Go.Proofs.YtkggdnnhgafopaaDoor.Gp
theorem strs_at {w : World} {A : Option Addr} {l : List ByteArray} (hC : Kd.C Kd.string w A l.length l) (hl : 0 < l.length) :
    ∃ b off, A = some ⟨b, off, none⟩ ∧ b < w.heap.size ∧ ∀ (j : Nat) x, l[j]? = some x → w.cell? ⟨b, off + j, none⟩ = some (.string x) := by
  obtain ⟨ad, rfl, h0⟩ := Kd.at_string hC 0 (by decide) (by omega)
  have hs : ad.spot = none := by simpa [Addr.add] using World.cell?_spot h0
  have hb : ad.block < w.heap.size := by
    rcases Nat.lt_or_ge ad.block w.heap.size with h | h
    · exact h
    · exfalso
      rw [World.cell?, Array.getElem?_eq_none (by simpa [Addr.add] using h)] at h0
      simp at h0
  obtain ⟨b, off, spot⟩ := ad
  simp only at hs hb
  subst hs
  refine ⟨b, off, rfl, hb, fun j x hx => ?_⟩
  have hj : j < l.length := by
    rcases Nat.lt_or_ge j l.length with h | h
    · exact h
    · rw [List.getElem?_eq_none h] at hx; cases hx
  obtain ⟨ad, e, hc⟩ := Kd.at_string hC (j : Int) (by omega) (by omega)
  cases e
  have hr : rdOf ByteArray.empty l (j : Int) = x := by simp [rdOf, List.getD, hx]
  rw [hr] at hc
  rw [Int.toNat_natCast] at hc
  rcases Nat.eq_zero_or_pos j with h0 | h0
  · subst h0; exact hc
  · have e : (⟨b, off, none⟩ : Addr).add j = ⟨b, off + j, none⟩ := Addr.add_lit _ _ _
    rw [e] at hc; exact hc
def joinB (l : List ByteArray) (sep : ByteArray) : ByteArray := ⟨(Lib.join (l.map (·.data.toList)) sep.data.toList).toArray⟩
def strings_Join.f (l0 : List ByteArray) (a1 : ByteArray) : Option ByteArray := if l0.length ≤ 1000000 ∧ (Lib.join (l0.map (·.data.toList)) a1.data.toList).length ≤ 140737488355328 then some (joinB l0 a1) else none
theorem strings_Join.calls (A0 : Option Addr) (c0 : Nat) (l0 : List ByteArray) (a1 : ByteArray) (r : ByteArray) (w : World) (hr0 : Kd.C Kd.string w A0 l0.length l0) (hc0 : l0.length ≤ c0) (h : strings_Join.f l0 a1 = some r) :
    Calls Tryd.prog 44 #[.slice A0 l0.length c0, .string a1] w fun e w' => e = .returned (.string r) ∧ Below w.heap.size w w' := by
  unfold strings_Join.f at h
  by_cases hz : l0.length ≤ 1000000 ∧ (Lib.join (l0.map (·.data.toList)) a1.data.toList).length ≤ 140737488355328
  case neg => rw [if_neg hz] at h; cases h
  rw [if_pos hz] at h
  cases h
  by_cases hl : 0 < l0.length
  · obtain ⟨b, off, rfl, hb, hc⟩ := strs_at hr0 hl
    exact Tryd.strings_Join b off c0 l0 a1 w hc hb (by omega) hc0 hz.2
  · have hn : l0 = [] := List.eq_nil_of_length_eq_zero (by omega)
    subst hn
    refine (Tryd.strings_Join_none A0 c0 a1 w).mono ?_
    rintro e w' ⟨rfl, rfl⟩
    exact ⟨rfl, Below.refl _ _⟩
end Go.Proofs.YtkggdnnhgafopaaDoor
