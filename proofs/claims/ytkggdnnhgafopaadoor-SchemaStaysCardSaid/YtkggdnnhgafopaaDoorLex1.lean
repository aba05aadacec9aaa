/- What lex reads of a text, part one: is a rune a figure? For every rune that a decoder hands out. -/
import Derived.Test.YtkggdnnhgafopaaDoorShelf
import Derived.WalkKit
import Derived.Handy
import Derived.WalkLawsBesides
import Derived.WalkSpells
import Derived.Lib.Hide
import Derived.Laws.Runes
import Derived.WalkMore
import Derived.RegionTactic
import Derived.Deep.QuietTactic
import Derived.BigQuiet
set_option linter.unusedVariables false
namespace Go.Proofs.YtkggdnnhgafopaaDoor
open Go.RowKit
def figs : ByteArray := ⟨#[48, 49, 50, 51, 52, 53, 54, 55, 56, 57]⟩
theorem indexByte_none (l : List UInt8) (c : UInt8) (h : ∀ b ∈ l, b ≠ c) : Lib.indexByte l c = -1 := by
  induction l with
  | nil => rfl
  | cons b l ih =>
    have e := ih (fun d hd => h d (.tail _ hd))
    have hb : (b == c) = false := beq_eq_false_iff_ne.2 (h b (.head _))
    simp only [Lib.indexByte, hb, e]
    rfl
theorem indexByte_far (l : List UInt8) (c : UInt8) (h : ∀ b ∈ l, b.toNat < 128) (hc : 128 ≤ c.toNat) : Lib.indexByte l c = -1 :=
  indexByte_none l c fun b hb e => by have := h b hb; rw [e] at this; omega
theorem below_drews (w : World) (n : Nat) : Below w.heap.size w (w.drewN n) := by
  induction n with
  | zero => exact Below.refl _ _
  | succ n ih => exact Below.drew ih
set_option maxRecDepth 100000 in
set_option maxHeartbeats 4000000 in
theorem indexRune_far (r : Int) (h0 : 128 ≤ r) (h1 : r ≤ 1114111) (h2 : r ≠ 65533) (w : World) :
    Calls Tryd.prog 88 #[.string figs, .int .i32 r] w fun e w' => e = .returned (.int .i64 (-1)) ∧ Below w.heap.size w w' := by
  have hv := Tryd.utf8_ValidRune r
  cases hq : Lib.validRune r with
  | false =>
    rw [hq] at hv
    clear hq
    have e1 : decide ((0 : Int) ≤ r) = true := decide_eq_true (by omega)
    have e2 : decide (r < (128 : Int)) = false := decide_eq_false (by omega)
    have e3 : (r == 65533) = false := beq_eq_false_iff_ne.2 h2
    go_enter Tryd.func88, Tryd.ntmps88
    go_wp2_with (go_at_call 94; refine (hv _).mono ?_; rintro e w' ⟨rfl, rfl⟩)
    go_ret
    exact ⟨rfl, by repeat (first | exact Below.refl _ _ | apply Below.drew)⟩
  | true =>
    rw [hq] at hv
    obtain ⟨hs2, hs4, hl⟩ := encode_facts r (by rw [validRune_eq]; exact hq) (by omega)
    clear hq
    have hfs : figs.size = 10 := rfl
    have e1 : decide ((0 : Int) ≤ r) = true := decide_eq_true (by omega)
    have e2 : decide (r < (128 : Int)) = false := decide_eq_false (by omega)
    have e3 : (r == 65533) = false := beq_eq_false_iff_ne.2 h2
    obtain ⟨X, hX⟩ : ∃ X, Utf8.encode r = X := ⟨_, rfl⟩
    rw [hX] at hs2 hs4
    have hl' : ∀ h : X.size - 1 < X.size, 128 ≤ (X[X.size - 1]'h).toNat := by subst hX; exact hl
    clear hl
    have hsz : X.size = 2 ∨ X.size = 3 ∨ X.size = 4 := by omega
    rcases hsz with hz | hz | hz
    · have hb : 128 ≤ (X[1]'(by omega)).toNat := by
        have := hl' (by omega)
        simpa [hz] using this
      clear hl' h2 h0 h1 hs2 hs4
      have hi : ∀ W, Calls Tryd.prog 93 #[.string (figs.extract 2 10), .int .u8 ((X[1]'(by omega)).toNat : Int)] W fun e w' => e = .returned (.int .i64 (-1)) ∧ w' = W := fun W => by
        refine (Tryd.strings_IndexByte (figs.extract 2 10) _ W).mono fun e w' h => ?_
        rw [indexByte_far _ _ (by decide) (by simpa using hb)] at h
        exact h
      have hne : ((figs[1].toNat : Int) != ((X[1]'(by omega)).toNat : Int)) = true := by
        rw [bne_iff_ne]
        have : figs[1].toNat = 49 := rfl
        omega
      have hw : IntKind.i64.wrap 2 = 2 := by decide
      go_enter Tryd.func88, Tryd.ntmps88
      go_wp2_with (go_at_call 94; refine (hv _).mono ?_; rintro e w' ⟨rfl, rfl⟩)
      go_step3
      go_wp2
      go_rounds 2
      go_step3
      go_wp2
      go_quiet (fail)
      go_wp2
      go_quiet (exact (hi _).mono (fun e w_ h => ⟨h.1, _, h.2⟩))
      go_wp2
      rw [Exit.noGoto_ret]
      go_wp2
      rw [Exit.noGoto_ret]
      go_ret
      exact ⟨rfl, by repeat (first | exact Below.refl _ _ | exact below_drews _ _ | apply Below.drew)⟩
    · have hb : 128 ≤ (X[2]'(by omega)).toNat := by
        have := hl' (by omega)
        simpa [hz] using this
      clear hl' h2 h0 h1 hs2 hs4
      have hi : ∀ W, Calls Tryd.prog 93 #[.string (figs.extract 3 10), .int .u8 ((X[2]'(by omega)).toNat : Int)] W fun e w' => e = .returned (.int .i64 (-1)) ∧ w' = W := fun W => by
        refine (Tryd.strings_IndexByte (figs.extract 3 10) _ W).mono fun e w' h => ?_
        rw [indexByte_far _ _ (by decide) (by simpa using hb)] at h
        exact h
      have hne : ((figs[2].toNat : Int) != ((X[2]'(by omega)).toNat : Int)) = true := by
        rw [bne_iff_ne]
        have : figs[2].toNat = 50 := rfl
        omega
      have hw : IntKind.i64.wrap 3 = 3 := by decide
      go_enter Tryd.func88, Tryd.ntmps88
      go_wp2_with (go_at_call 94; refine (hv _).mono ?_; rintro e w' ⟨rfl, rfl⟩)
      go_step3
      go_wp2
      go_rounds 2
      go_step3
      go_wp2
      go_quiet (fail)
      go_wp2
      go_quiet (exact (hi _).mono (fun e w_ h => ⟨h.1, _, h.2⟩))
      go_wp2
      rw [Exit.noGoto_ret]
      go_wp2
      rw [Exit.noGoto_ret]
      go_ret
      exact ⟨rfl, by repeat (first | exact Below.refl _ _ | exact below_drews _ _ | apply Below.drew)⟩
    · have hb : 128 ≤ (X[3]'(by omega)).toNat := by
        have := hl' (by omega)
        simpa [hz] using this
      clear hl' h2 h0 h1 hs2 hs4
      have hi : ∀ W, Calls Tryd.prog 93 #[.string (figs.extract 4 10), .int .u8 ((X[3]'(by omega)).toNat : Int)] W fun e w' => e = .returned (.int .i64 (-1)) ∧ w' = W := fun W => by
        refine (Tryd.strings_IndexByte (figs.extract 4 10) _ W).mono fun e w' h => ?_
        rw [indexByte_far _ _ (by decide) (by simpa using hb)] at h
        exact h
      have hne : ((figs[3].toNat : Int) != ((X[3]'(by omega)).toNat : Int)) = true := by
        rw [bne_iff_ne]
        have : figs[3].toNat = 51 := rfl
        omega
      have hw : IntKind.i64.wrap 4 = 4 := by decide
      go_enter Tryd.func88, Tryd.ntmps88
      go_wp2_with (go_at_call 94; refine (hv _).mono ?_; rintro e w' ⟨rfl, rfl⟩)
      go_step3
      go_wp2
      go_rounds 2
      go_step3
      go_wp2
      go_quiet (fail)
      go_wp2
      go_quiet (exact (hi _).mono (fun e w_ h => ⟨h.1, _, h.2⟩))
      go_wp2
      rw [Exit.noGoto_ret]
      go_wp2
      rw [Exit.noGoto_ret]
      go_ret
      exact ⟨rfl, by repeat (first | exact Below.refl _ _ | exact below_drews _ _ | apply Below.drew)⟩
end Go.Proofs.YtkggdnnhgafopaaDoor
