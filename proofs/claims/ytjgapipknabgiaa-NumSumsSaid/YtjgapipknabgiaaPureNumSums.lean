/- NumSums: for every two numbers of 64 bits with sign, Add, Sub, Mul, Neg answer as the reference does; no condition. -/
import Derived.Test.YtjgapipknabgiaaNumFn
namespace Go.Proofs.Ytjgapipknabgiaa.Pure
open Go.RowKit Go.Proofs.Ytjgapipknabgiaa.Hp Go.Proofs.YtjgapipknabgiaaW.PrintWords Go.Proofs.YtjgapipknabgiaaW.PrintLast Go.Proofs.Ytjgapipknabgiaa.NumPl Go.Proofs.Ytjgapipknabgiaa.NumFn

theorem NumSums : instarlaw01_NumSums.Pure := by
  intro a b ha hb
  have ha := wf_i64 ha
  have hb := wf_i64 hb
  refine ⟨1, ?_⟩
  unfold instarlaw01_NumSums.f
  rw [add_f a b ha hb, refadd_f a b ha hb, sub_f a b ha hb, refsub_f a b ha hb, mul_f a b ha hb, refmul_f 0 a b ha hb, neg_f a ha, refsub_f 0 a (by omega) ha, alive_true]
  simp

end Go.Proofs.Ytjgapipknabgiaa.Pure
