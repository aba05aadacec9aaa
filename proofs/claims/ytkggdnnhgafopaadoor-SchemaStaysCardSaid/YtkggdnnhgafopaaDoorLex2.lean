/- What lex reads of a text, part two: is a rune a figure? For every rune that a decoder hands out. -/
import Derived.Test.YtkggdnnhgafopaaDoorLex1
import Derived.Laws.RangeString
set_option linter.unusedVariables false
namespace Go.Proofs.YtkggdnnhgafopaaDoor
open Go.RowKit
set_option maxRecDepth 100000 in
set_option maxHeartbeats 4000000 in
theorem indexRune_err (w : World) :
    Calls Tryd.prog 88 #[.string figs, .int .i32 65533] w fun e w' => e = .returned (.int .i64 (-1)) ∧ Below w.heap.size w w' := by
  have hfs : figs.size = 10 := rfl
  have n0 : (Instr.next (.pointer (some ⟨w.heap.size, 0, none⟩)) true 0).run Tryd.prog (w.iter figs 0) = .ok (.tuple #[.bool true, .int .i64 0, .int .i32 48]) (w.iter figs 1) := run_next_ascii w figs 0 0 (by decide) (by decide)
  have n1 : (Instr.next (.pointer (some ⟨w.heap.size, 0, none⟩)) true 0).run Tryd.prog (w.iter figs 1) = .ok (.tuple #[.bool true, .int .i64 1, .int .i32 49]) (w.iter figs 2) := run_next_ascii w figs 1 0 (by decide) (by decide)
  have n2 : (Instr.next (.pointer (some ⟨w.heap.size, 0, none⟩)) true 0).run Tryd.prog (w.iter figs 2) = .ok (.tuple #[.bool true, .int .i64 2, .int .i32 50]) (w.iter figs 3) := run_next_ascii w figs 2 0 (by decide) (by decide)
  have n3 : (Instr.next (.pointer (some ⟨w.heap.size, 0, none⟩)) true 0).run Tryd.prog (w.iter figs 3) = .ok (.tuple #[.bool true, .int .i64 3, .int .i32 51]) (w.iter figs 4) := run_next_ascii w figs 3 0 (by decide) (by decide)
  have n4 : (Instr.next (.pointer (some ⟨w.heap.size, 0, none⟩)) true 0).run Tryd.prog (w.iter figs 4) = .ok (.tuple #[.bool true, .int .i64 4, .int .i32 52]) (w.iter figs 5) := run_next_ascii w figs 4 0 (by decide) (by decide)
  have n5 : (Instr.next (.pointer (some ⟨w.heap.size, 0, none⟩)) true 0).run Tryd.prog (w.iter figs 5) = .ok (.tuple #[.bool true, .int .i64 5, .int .i32 53]) (w.iter figs 6) := run_next_ascii w figs 5 0 (by decide) (by decide)
  have n6 : (Instr.next (.pointer (some ⟨w.heap.size, 0, none⟩)) true 0).run Tryd.prog (w.iter figs 6) = .ok (.tuple #[.bool true, .int .i64 6, .int .i32 54]) (w.iter figs 7) := run_next_ascii w figs 6 0 (by decide) (by decide)
  have n7 : (Instr.next (.pointer (some ⟨w.heap.size, 0, none⟩)) true 0).run Tryd.prog (w.iter figs 7) = .ok (.tuple #[.bool true, .int .i64 7, .int .i32 55]) (w.iter figs 8) := run_next_ascii w figs 7 0 (by decide) (by decide)
  have n8 : (Instr.next (.pointer (some ⟨w.heap.size, 0, none⟩)) true 0).run Tryd.prog (w.iter figs 8) = .ok (.tuple #[.bool true, .int .i64 8, .int .i32 56]) (w.iter figs 9) := run_next_ascii w figs 8 0 (by decide) (by decide)
  have n9 : (Instr.next (.pointer (some ⟨w.heap.size, 0, none⟩)) true 0).run Tryd.prog (w.iter figs 9) = .ok (.tuple #[.bool true, .int .i64 9, .int .i32 57]) (w.iter figs 10) := run_next_ascii w figs 9 0 (by decide) (by decide)
  have n10 : (Instr.next (.pointer (some ⟨w.heap.size, 0, none⟩)) true 0).run Tryd.prog (w.iter figs 10) = .ok (.tuple #[.bool false]) (w.iter figs 10) := run_next_end w figs 10 0 (by decide)
  go_enter Tryd.func88, Tryd.ntmps88
  go_wp2
  go_rounds 12
  go_ret
  exact ⟨rfl, (Below.refl _ _).alloc (Nat.le_refl _) _⟩

/-- Is a rune a figure? -/
def figR (x : Int) : Bool := decide (48 ≤ x) && decide (x ≤ 57)
set_option maxRecDepth 100000 in
theorem figs_ascii (x : Int) (h0 : 0 ≤ x) (h1 : x < 128) : decide (0 ≤ Lib.indexByte figs.data.toList x.toNat.toUInt8) = figR x := by
  obtain ⟨n, rfl⟩ := Int.eq_ofNat_of_zero_le h0
  have hn : n < 128 := by omega
  have key : ∀ m : Fin 128, decide (0 ≤ Lib.indexByte figs.data.toList ((m.val : Int)).toNat.toUInt8) = figR (m.val : Int) := by decide
  exact key ⟨n, hn⟩
set_option maxRecDepth 100000 in
set_option maxHeartbeats 4000000 in
/-- strings.ContainsRune of the figures, at every rune. -/
theorem containsRune_figs (x : Int) (h0 : 0 ≤ x) (h1 : x ≤ 1114111) (w : World) :
    Calls Tryd.prog 70 #[.string figs, .int .i32 x] w fun e w' => e = .returned (.bool (figR x)) ∧ Below w.heap.size w w' := by
  by_cases h : x < 128
  · refine (Tryd.strings_ContainsRune_ascii figs x w h0 h).mono fun e w' hh => ?_
    rw [figs_ascii x h0 h] at hh
    exact ⟨hh.1, hh.2 ▸ Below.refl _ _⟩
  · have hf : figR x = false := by
      have : ¬ x ≤ 57 := by omega
      simp [figR, this]
    rw [hf]
    have hc : Calls Tryd.prog 88 #[.string figs, .int .i32 x] w fun e w' => e = .returned (.int .i64 (-1)) ∧ Below w.heap.size w w' := by
      by_cases he : x = 65533
      · subst he; exact indexRune_err w
      · exact indexRune_far x (by omega) h1 he w
    clear hf
    go_enter Tryd.func70, Tryd.ntmps70
    go_wp2_with (go_at_call 88; refine hc.mono ?_; rintro e w' ⟨rfl, hb⟩)
    go_ret
    exact ⟨rfl, hb⟩
end Go.Proofs.YtkggdnnhgafopaaDoor
