/- NumOrder: for every two numbers of 64 bits with sign, the bytes of flips are in order, a sum less one is the other, products commute; no condition. -/
import Derived.Test.YtjgapipknabgiaaNumFn
namespace Go.Proofs.Ytjgapipknabgiaa.Pure
open Go.RowKit Go.Proofs.Ytjgapipknabgiaa.Hp Go.Proofs.YtjgapipknabgiaaW.PrintWords Go.Proofs.YtjgapipknabgiaaW.PrintLast Go.Proofs.Ytjgapipknabgiaa.NumPl Go.Proofs.Ytjgapipknabgiaa.NumFn

theorem NumOrder : instarlaw01_NumOrder.Pure := by
  intro a b ha hb
  have ha := wf_i64 ha
  have hb := wf_i64 hb
  unfold instarlaw01_NumOrder.f
  have fa : 0 ≤ flp a ∧ flp a ≤ 18446744073709551615 := by unfold flp; omega
  have fb : 0 ≤ flp b ∧ flp b ≤ 18446744073709551615 := by unfold flp; omega
  have ho : -9223372036854775808 ≤ (overs (a + b)).1 ∧ (overs (a + b)).1 ≤ 9223372036854775807 := by
    unfold overs
    split
    · rename_i h; exact inI64_of h
    · decide
  have l1 : decide (flp a < flp b) = decide (a < b) := by
    apply decide_eq_decide.2; unfold flp; omega
  have l2 : (flp a == flp b) = (a == b) := by
    rw [Bool.eq_iff_iff, beq_iff_eq, beq_iff_eq]; unfold flp; omega
  rw [flip_f a ha, flip_f b hb]
  simp only [Option.bind_some]
  rw [put_f _ fa, put_f _ fb, add_f a b ha hb]
  simp only [Option.bind_some]
  rw [sub_f _ b ho hb, mul_f a b ha hb, mul_f b a hb ha, alive_true]
  simp only [Option.bind_some, if_true]
  rw [put_less _ _ fa fb, put_same _ _ fa fb, l1, l2, Int.mul_comm b a]
  by_cases h : inI64 (a + b) = true
  · have e : overs (a + b) = (a + b, 0) := by unfold overs; rw [if_pos h]
    have e2 : a + b - b = a := by omega
    have e3 : inI64 a = true := by simp [inI64]; omega
    have e4 : overs a = (a, 0) := by unfold overs; rw [if_pos e3]
    rw [e]; simp [e2, e4]
  · have e : overs (a + b) = (0, 11) := by unfold overs; rw [if_neg h]
    rw [e]; simp

end Go.Proofs.Ytjgapipknabgiaa.Pure
