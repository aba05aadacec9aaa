/- NumBack: for every number of 64 bits with sign and every one without, the number of any zigzag, flip or bytes is it, and back; no condition. -/
import Derived.Test.YtjgapipknabgiaaNumFn
namespace Go.Proofs.Ytjgapipknabgiaa.Pure
open Go.RowKit Go.Proofs.Ytjgapipknabgiaa.Hp Go.Proofs.YtjgapipknabgiaaW.PrintWords Go.Proofs.YtjgapipknabgiaaW.PrintLast Go.Proofs.Ytjgapipknabgiaa.NumPl Go.Proofs.Ytjgapipknabgiaa.NumFn

theorem bnd {α β : Type} (x : α) (f : α → Option β) : (some x).bind f = f x := of_eq_true (by simp)
theorem zig_r (a : Int) (ha : -9223372036854775808 ≤ a ∧ a ≤ 9223372036854775807) : 0 ≤ zig a ∧ zig a ≤ 18446744073709551615 := by unfold zig; split <;> omega
theorem zag_r (b : Int) (hb : 0 ≤ b ∧ b ≤ 18446744073709551615) : -9223372036854775808 ≤ zag b ∧ zag b ≤ 9223372036854775807 := by unfold zag; split <;> omega
theorem zag_zig (a : Int) : zag (zig a) = a := by
  unfold zig
  by_cases h : a ≥ 0
  · rw [if_pos h]; unfold zag; rw [if_pos (by omega)]; omega
  · rw [if_neg h]; unfold zag; rw [if_neg (by omega)]; omega
theorem zig_zag (b : Int) (hb : 0 ≤ b) : zig (zag b) = b := by
  unfold zag
  by_cases h : b % 2 = 0
  · rw [if_pos h]; unfold zig; rw [if_pos (by omega)]; omega
  · rw [if_neg h]; unfold zig; rw [if_neg (by omega)]; omega
theorem back (k : Nat) (a b : Int) (ha : -9223372036854775808 ≤ a ∧ a ≤ 9223372036854775807) (hb : 0 ≤ b ∧ b ≤ 18446744073709551615) (hg : num_Get.f k (strOfNums (putBytes b)) = some (b, 0)) : instarlaw01_NumBack.f k a b = some true := by
  have r3 : 0 ≤ flp a ∧ flp a ≤ 18446744073709551615 := by unfold flp; omega
  have r4 : -9223372036854775808 ≤ unflp b ∧ unflp b ≤ 9223372036854775807 := by unfold unflp; omega
  have e3 : unflp (flp a) = a := by unfold flp unflp; omega
  have e4 : flp (unflp b) = b := by unfold flp unflp; omega
  unfold instarlaw01_NumBack.f
  rw [put_f b hb, bnd, hg, bnd, alive_true, bnd, if_pos rfl, zig_f a ha, bnd, zag_f _ (zig_r a ha), bnd, zag_zig, if_pos rfl, zag_f b hb, bnd, zig_f _ (zag_r b hb), bnd, zig_zag b hb.1, if_pos rfl, flip_f a ha, bnd, unflip_f _ r3, bnd, e3, if_pos rfl, unflip_f b hb, bnd, flip_f _ r4, bnd, e4, if_pos rfl, if_pos rfl]
  rfl
theorem NumBack : instarlaw01_NumBack.Pure := fun a b ha hb => ⟨9, back 9 a b (wf_i64 ha) (wf_u64 hb) (get_put 0 b (wf_u64 hb))⟩

end Go.Proofs.Ytjgapipknabgiaa.Pure
