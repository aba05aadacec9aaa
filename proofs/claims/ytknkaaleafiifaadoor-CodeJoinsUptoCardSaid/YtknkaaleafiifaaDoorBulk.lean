/- What the second form's bound gives for a list argument: its length; no condition beyond the bound. -/
import Derived.Test.YtknkaaleafiifaaDoorRows
namespace Go.Proofs.YtknkaaleafiifaaDoor.bulks
theorem pos {H : Type} (d : DataW H) : 0 < Rows.uptoBulk d := by
  cases d with
  | lit l => cases l <;> simp [Rows.uptoBulk]
  | nil => simp [Rows.uptoBulk]
  | ptr d => simp [Rows.uptoBulk]
  | slice elems spare => simp [Rows.uptoBulk]
  | agg parts => simp [Rows.uptoBulk]
  | iface t d => simp [Rows.uptoBulk]
  | map entries => simp [Rows.uptoBulk]
  | held h => simp [Rows.uptoBulk]
theorem all_len {H : Type} : ∀ l : List (DataW H), l.length ≤ Rows.uptoBulkAll l
  | [] => Nat.zero_le _
  | d :: r => by
    have a := pos d
    have b := all_len r
    simp only [Rows.uptoBulkAll, List.length_cons]
    omega
theorem slice_len {H : Type} (es sp : List (DataW H)) : es.length ≤ Rows.uptoBulk (.slice es sp) := by
  have a := all_len es
  simp only [Rows.uptoBulk]
  omega
/-- Two arguments that are lists: each one's length. -/
theorem two {H : Type} {d e : DataW H} {g : List (DataW H)} (h : Rows.uptoSmall H ([d, e] ++ g) = true) :
    (∀ es sp, d = .slice es sp → es.length ≤ 1048576) ∧ (∀ es sp, e = .slice es sp → es.length ≤ 1048576) := by
  have hb : Rows.uptoBulkAll ([d, e] ++ g) ≤ 1048576 := by simpa [Rows.uptoSmall] using h
  simp only [List.cons_append, List.nil_append, Rows.uptoBulkAll] at hb
  refine ⟨fun es sp hd => ?_, fun es sp hd => ?_⟩
  · have := slice_len es sp
    rw [← hd] at this
    omega
  · have := slice_len es sp
    rw [← hd] at this
    omega
end Go.Proofs.YtknkaaleafiifaaDoor.bulks
