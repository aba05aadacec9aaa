/- What num.Get comes to on eight bytes; no condition. -/
import Derived.Test.YtknkaaleafiifaaDoorCodeFn
namespace Go.Proofs.YtknkaaleafiifaaDoor
open Go.RowKit Go.Proofs.YtknkaaleafiifaaDoorW.PrintWords

/-- The number of bytes, the highest first. -/
def numL (l : List UInt8) : Int := NumPl.val (l.map fun c => (c.toNat : Int)) 0
theorem bt_of {s : ByteArray} {l : List UInt8} (hs : s.data.toList = l) (i : Nat) (c : UInt8) (hc : l[i]? = some c) : bt s (i : Int) = (c.toNat : Int) := by
  have hl : i < l.length := by
    rcases Nat.lt_or_ge i l.length with h | h
    · exact h
    · rw [List.getElem?_eq_none h] at hc; cases hc
  have hz : s.size = l.length := by
    have := congrArg List.length hs
    rw [Array.length_toList] at this
    exact this
  unfold bt
  rw [dif_pos (by simp; omega)]
  have e : ∀ h : i < s.size, s[i]'h = c := by
    intro h
    show s.data[i] = c
    have h2 : s.data.toList[i]? = some c := by rw [hs]; exact hc
    rw [List.getElem?_eq_getElem (by rw [hs]; exact hl)] at h2
    rw [← Option.some.inj h2]; simp
  have e2 := e (by omega)
  show ((s[((i : Int)).toNat]'_).toNat : Int) = _
  simp only [Int.toNat_natCast, e2]
theorem get_eight (k : Nat) (s : ByteArray) (c0 c1 c2 c3 c4 c5 c6 c7 : UInt8) (hs : s.data.toList = [c0, c1, c2, c3, c4, c5, c6, c7]) : Kp.num_Get.f (k + 9) s = some (numL [c0, c1, c2, c3, c4, c5, c6, c7], 0) := by
  have hz : s.size = 8 := by
    have := congrArg List.length hs
    rw [Array.length_toList] at this
    exact this
  unfold Kp.num_Get.f
  rw [if_pos (by rw [hz]; rfl)]
  have rnd : ∀ (j : Nat) (x : Int) (i : Nat) (c : UInt8), ([c0, c1, c2, c3, c4, c5, c6, c7] : List UInt8)[i]? = some c → 0 ≤ x → x * 256 + 255 ≤ 18446744073709551615 → i < 8 → Kp.num_Get.l0 (j + 1) s x i = Kp.num_Get.l0 j s (x * 256 + (c.toNat : Int)) (i + 1 : Nat) := by
    intro j x i c hc h0 h1 hi
    have hb := bt_of hs i c hc
    have hr := bt_range s i
    rw [hb] at hr
    simp only [Kp.num_Get.l0]
    rw [if_pos (by omega), if_pos (by omega), if_pos (by rw [hz]; omega), hb]
    have e1 : IntKind.u64.wrap (x * 256) = x * 256 := by simp only [IntKind.wrap_u64]; omega
    have e2 : IntKind.u64.wrap (c.toNat : Int) = (c.toNat : Int) := by simp only [IntKind.wrap_u64]; omega
    rw [e1, e2, NumPl.or_byte _ _ (by omega) (by omega) (by omega) (by omega) (by omega)]
    have e3 : wrap64 ((i : Int) + 1) = ((i + 1 : Nat) : Int) := by unfold wrap64; omega
    rw [e3]
  have h0 := c0.toNat_lt
  have h1 := c1.toNat_lt
  have h2 := c2.toNat_lt
  have h3 := c3.toNat_lt
  have h4 := c4.toNat_lt
  have h5 := c5.toNat_lt
  have h6 := c6.toNat_lt
  have h7 := c7.toNat_lt
  rw [show (0 : Int) = ((0 : Nat) : Int) from rfl]
  rw [rnd _ _ 0 c0 rfl (by omega) (by omega) (by decide)]
  rw [rnd _ _ 1 c1 rfl (by omega) (by omega) (by decide)]
  rw [rnd _ _ 2 c2 rfl (by omega) (by omega) (by decide)]
  rw [rnd _ _ 3 c3 rfl (by omega) (by omega) (by decide)]
  rw [rnd _ _ 4 c4 rfl (by omega) (by omega) (by decide)]
  rw [rnd _ _ 5 c5 rfl (by omega) (by omega) (by decide)]
  rw [rnd _ _ 6 c6 rfl (by omega) (by omega) (by decide)]
  rw [rnd _ _ 7 c7 rfl (by omega) (by omega) (by decide)]
  simp only [Kp.num_Get.l0]
  rw [if_neg (by decide)]
  simp [numL, NumPl.val]
theorem numL_range (c0 c1 c2 c3 c4 c5 c6 c7 : UInt8) : 0 ≤ numL [c0, c1, c2, c3, c4, c5, c6, c7] ∧ numL [c0, c1, c2, c3, c4, c5, c6, c7] ≤ 18446744073709551615 := by
  have := c0.toNat_lt
  have := c1.toNat_lt
  have := c2.toNat_lt
  have := c3.toNat_lt
  have := c4.toNat_lt
  have := c5.toNat_lt
  have := c6.toNat_lt
  have := c7.toNat_lt
  simp only [numL, NumPl.val, List.map_cons, List.map_nil]
  omega
theorem numL_four (c0 c1 c2 c3 : UInt8) : 0 ≤ numL [c0, c1, c2, c3] ∧ numL [c0, c1, c2, c3] ≤ 4294967295 ∧ numL [0, 0, 0, 0, c0, c1, c2, c3] = numL [c0, c1, c2, c3] := by
  have := c0.toNat_lt; have := c1.toNat_lt; have := c2.toNat_lt; have := c3.toNat_lt
  have e : ((0 : UInt8).toNat : Int) = 0 := rfl
  simp only [numL, NumPl.val, List.map_cons, List.map_nil, e]
  omega
end Go.Proofs.YtknkaaleafiifaaDoor
