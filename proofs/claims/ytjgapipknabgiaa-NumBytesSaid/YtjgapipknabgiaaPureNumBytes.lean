/- NumBytes: for every number of 64 bits without sign and every text, Put and Get answer as the reference does (texts over 100 bytes are not asked); no condition. -/
import Derived.Test.YtjgapipknabgiaaNumFn
namespace Go.Proofs.Ytjgapipknabgiaa.Pure
open Go.RowKit Go.Proofs.Ytjgapipknabgiaa.Hp Go.Proofs.YtjgapipknabgiaaW.PrintWords Go.Proofs.YtjgapipknabgiaaW.PrintLast Go.Proofs.Ytjgapipknabgiaa.NumPl Go.Proofs.Ytjgapipknabgiaa.NumFn

theorem NumBytes : instarlaw01_NumBytes.Pure := by
  intro a s ha hs
  have ha := wf_u64 ha
  refine ⟨20, ?_⟩
  unfold instarlaw01_NumBytes.f
  rw [alive_true, put_f a ha, refput_f 0 a ha]
  by_cases h : (s.size : Int) > 100
  · rw [if_pos h]; rfl
  · rw [if_neg h]
    obtain ⟨r, r1, r2⟩ := get_both 11 s
    rw [r1, r2]; simp

end Go.Proofs.Ytjgapipknabgiaa.Pure
