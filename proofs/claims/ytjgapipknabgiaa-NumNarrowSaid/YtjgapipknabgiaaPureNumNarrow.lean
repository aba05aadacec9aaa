/- NumNarrow: for every number of 64 bits with sign and every one without, Narrow, Zig, Zag, Flip, Unflip answer as the reference does; no condition. -/
import Derived.Test.YtjgapipknabgiaaNumFn
namespace Go.Proofs.Ytjgapipknabgiaa.Pure
open Go.RowKit Go.Proofs.Ytjgapipknabgiaa.Hp Go.Proofs.YtjgapipknabgiaaW.PrintWords Go.Proofs.YtjgapipknabgiaaW.PrintLast Go.Proofs.Ytjgapipknabgiaa.NumPl Go.Proofs.Ytjgapipknabgiaa.NumFn

theorem NumNarrow : instarlaw01_NumNarrow.Pure := by
  intro a b ha hb
  have ha := wf_i64 ha
  have hb := wf_u64 hb
  obtain ⟨r, hr⟩ := narrow_some a
  unfold instarlaw01_NumNarrow.f
  rw [← narrow_f, hr, alive_true, zig_f a ha, refzig_f a ha, zag_f b hb, refzag_f b hb, flip_f a ha, refflip_f a ha, unflip_f b hb, refunflip_f b hb]
  simp

end Go.Proofs.Ytjgapipknabgiaa.Pure
