/- Plain laws of the code: what fits, what is alive, what comes first of a value's bytes, what bytes come to; no program in sight. -/
import Derived.Test.YtknkaaleafiifaaDoorH
set_option linter.unusedVariables false
set_option linter.unusedSimpArgs false
namespace Go.Proofs.YtknkaaleafiifaaDoor
open Go.RowKit Go.Proofs.YtknkaaleafiifaaDoorW.PrintWords Go.Proofs.YtknkaaleafiifaaDoor.Kp Go.Proofs.YtknkaaleafiifaaDoor.Hp

theorem bnd {α β : Type} (a : α) (f : α → Option β) : (some a).bind f = f a := of_eq_true (by simp)

theorem fits_l (l : List S32) : ∀ (m i : Nat) (x : Int), i + m = 21 → ∃ b, (∀ k, instarlaw04_fits.l0 (k + m + 1) l x i = some b) ∧ (b = true → l.length ≤ 20) := by
  intro m
  induction m with
  | zero =>
    intro i x hi
    by_cases hl : (l.length : Int) ≤ 20
    · refine ⟨decide (x ≤ 600), fun k => ?_, fun _ => by omega⟩
      simp only [instarlaw04_fits.l0]
      rw [if_neg (by omega), if_pos hl]
    · refine ⟨false, fun k => ?_, fun h => by cases h⟩
      simp only [instarlaw04_fits.l0]
      rw [if_neg (show ¬ ((i : Int) ≤ 20) by omega), if_neg hl]
      simp
  | succ m ih =>
    intro i x hi
    by_cases hlt : (i : Int) < (l.length : Int)
    · obtain ⟨b, h1, h2⟩ := ih (i + 1) (wrap64 (x + (((rd_T32 l i).f2).size : Int))) (by omega)
      refine ⟨b, fun k => ?_, h2⟩
      have e := h1 k
      rw [show k + (m + 1) + 1 = (k + m + 1) + 1 by omega]
      rw [instarlaw04_fits.l0, if_pos hlt, if_pos (by omega), if_pos (by omega)]
      rw [show wrap64 ((i : Int) + 1) = ((i + 1 : Nat) : Int) by unfold wrap64; omega]
      exact e
    · by_cases hl : (l.length : Int) ≤ 20
      · refine ⟨decide (x ≤ 600), fun k => ?_, fun _ => by omega⟩
        rw [show k + (m + 1) + 1 = (k + m + 1) + 1 by omega]
        rw [instarlaw04_fits.l0, if_neg hlt, if_pos hl]
      · refine ⟨false, fun k => ?_, fun h => by cases h⟩
        rw [show k + (m + 1) + 1 = (k + m + 1) + 1 by omega]
        rw [instarlaw04_fits.l0, if_neg hlt, if_neg hl]
theorem fits_f (l : List S32) : ∃ b, (∀ k, instarlaw04_fits.f (k + 22) l = some b) ∧ (b = true → l.length ≤ 20) := by
  obtain ⟨b, h1, h2⟩ := fits_l l 21 0 0 rfl
  exact ⟨b, fun k => h1 k, h2⟩

def aliveV : List S32 := [⟨0, 0, ⟨#[]⟩⟩, ⟨2, (-1), ⟨#[]⟩⟩, ⟨4, 0, ⟨#[97, 0]⟩⟩]
def aliveB : ByteArray := ⟨#[0, 2, 127, 255, 255, 255, 4, 97, 0, 255, 0, 0]⟩
theorem tl (a : Array UInt8) : (⟨a⟩ : ByteArray).toList = a.toList := by rw [ByteArray.toList_eq]
theorem right_of (x : S32) (h : x.f2.data.toList = []) (h2 : x.f0 = 0 ∧ x.f1 = 0 ∨ x.f0 = 2 ∧ -2147483648 ≤ x.f1 ∧ x.f1 ≤ 2147483647) : rightX x = true := by
  unfold rightX rightV
  rw [ByteArray.toList_eq, h]
  rcases h2 with ⟨h2, h3⟩ | ⟨h2, h3⟩ <;> rw [h2] <;> simp [h3]
theorem alive_enc : code_Encode.f aliveV = some (aliveB, 0) := by
  have r : aliveV.all rightX = true := by
    simp only [aliveV, List.all_cons, List.all_nil, Bool.and_true]
    rw [right_of _ rfl (.inl ⟨rfl, rfl⟩), right_of _ rfl (.inr ⟨rfl, by decide, by decide⟩)]
    simp only [rightX, rightV]
    decide
  unfold code_Encode.f
  rw [if_pos (by decide), if_pos r]
  have e : encL aliveV = [0, 2, 127, 255, 255, 255, 4, 97, 0, 255, 0, 0] := by decide
  rw [e]
  rfl
theorem first_f (s : ByteArray) (l : List UInt8) (hs : s.data.toList = l) (hl : l.length ≤ 1099511627776) : code_first.f s = some (firstR (firstL l)) := by
  have hz : s.size = l.length := by rw [← hs]; exact Array.length_toList.symm
  unfold code_first.f
  rw [if_pos (by omega), hs]
theorem extract_toList (s : ByteArray) (n : Nat) : (s.extract n s.size).data.toList = s.data.toList.drop n := by
  rw [ByteArray.data_extract, Array.toList_extract, List.extract_eq_take_drop]
  exact List.take_of_length_le (by simp)
theorem size_toList (s : ByteArray) : s.size = s.data.toList.length := Array.length_toList.symm
end Go.Proofs.YtknkaaleafiifaaDoor
