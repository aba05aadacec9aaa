/- What the functions on numbers' bytes and flips come to, in plain numbers; no condition beyond the ranges that stand in each. -/
import Derived.Test.YtknkaaleafiifaaDoorK3
import Derived.Test.YtknkaaleafiifaaDoorK2
import Derived.Test.YtknkaaleafiifaaDoorNumPl
namespace Go.Proofs.YtknkaaleafiifaaDoor.NumFn
open Go.RowKit Go.Proofs.YtknkaaleafiifaaDoor.Kp Go.Proofs.YtknkaaleafiifaaDoor.NumPl

def flp (a : Int) : Int := a + 9223372036854775808
def unflp (n : Int) : Int := n - 9223372036854775808
theorem flip_f (a : Int) (ha : -9223372036854775808 ≤ a ∧ a ≤ 9223372036854775807) : num_Flip.f a = some (flp a) := by
  unfold num_Flip.f flp
  rw [xor_top_u64 _ (by simp only [IntKind.wrap_u64]; omega) (by simp only [IntKind.wrap_u64]; omega)]
  congr 1; simp only [IntKind.wrap_u64]; omega
theorem refflip_f (a : Int) (ha : -9223372036854775808 ≤ a ∧ a ≤ 9223372036854775807) : instarref01_Flip.f a = some (flp a) := by
  unfold instarref01_Flip.f flp
  by_cases h : a ≥ 0
  · rw [if_pos h]; congr 1; simp only [IntKind.wrap_u64]; omega
  · rw [if_neg h]; congr 1; simp only [IntKind.wrap_u64]; unfold wrap64; omega
theorem unflip_f (n : Int) (hn : 0 ≤ n ∧ n ≤ 18446744073709551615) : num_Unflip.f n = some (unflp n) := by
  unfold num_Unflip.f unflp
  rw [xor_top_u64 _ hn.1 hn.2]
  congr 1; unfold wrap64; omega
theorem put_f (n : Int) (hn : 0 ≤ n ∧ n ≤ 18446744073709551615) : num_Put.f n = some (strOfNums (putBytes n)) := by
  unfold num_Put.f
  rw [if_pos hn.1, if_pos hn.2]
theorem put_bytes (n : Int) (hn : 0 ≤ n ∧ n ≤ 18446744073709551615) : ∀ b ∈ putBytes n, 0 ≤ b ∧ b ≤ 255 := by
  intro b hb
  simp [putBytes] at hb
  omega
theorem put_val (n : Int) : val (putBytes n) 0 = n := by
  simp only [putBytes, val]
  omega
theorem put_toList (n : Int) : (strOfNums (putBytes n)).toList = (putBytes n).map fun n => UInt8.ofNat n.toNat := by
  rw [ByteArray.toList_eq, strOfNums_data]
theorem put_less (x y : Int) (hx : 0 ≤ x ∧ x ≤ 18446744073709551615) (hy : 0 ≤ y ∧ y ≤ 18446744073709551615) :
    Op.bytesLess (strOfNums (putBytes x)).toList (strOfNums (putBytes y)).toList = decide (x < y) := by
  rw [put_toList, put_toList, bytesLess_val (putBytes x) (putBytes y) 0 rfl (put_bytes x hx) (put_bytes y hy), put_val, put_val]
theorem put_same (x y : Int) (hx : 0 ≤ x ∧ x ≤ 18446744073709551615) (hy : 0 ≤ y ∧ y ≤ 18446744073709551615) :
    ((strOfNums (putBytes x)).toList == (strOfNums (putBytes y)).toList) = (x == y) := by
  rw [put_toList, put_toList, Bool.eq_iff_iff, beq_iff_eq, beq_iff_eq]
  constructor
  · intro h
    have := bytes_inj _ _ (put_bytes x hx) (put_bytes y hy) h
    rw [← put_val x, ← put_val y, this]
  · rintro rfl; rfl
theorem put_size (n : Int) : (strOfNums (putBytes n)).size = 8 := by rw [strOfNums_size]; rfl
theorem refput_f (k : Nat) (n : Int) (hn : 0 ≤ n ∧ n ≤ 18446744073709551615) : instarref01_Put.f (k + 20) n = some (strOfNums (putBytes n)) := by
  unfold instarref01_Put.f
  have e0 : instarref01_Put.l0 (k + 20) n ([] : List Int) 0 = instarref01_Put.l1 (k + 11) n [0, 0, 0, 0, 0, 0, 0, 0] 7 := by
    simp [instarref01_Put.l0, wrap64]
  have st : ∀ (m : Int), 0 ≤ m → m ≤ 18446744073709551615 → IntKind.u64.wrap (Int.tdiv m 256) = m / 256 ∧ (Int.tmod m 256) % 256 = m % 256 := by
    intro m h0 h1
    rw [Int.tmod_eq_emod_of_nonneg h0, Int.tdiv_eq_ediv_of_nonneg h0]
    simp only [IntKind.wrap_u64]
    omega
  rw [e0]
  have rnd : ∀ (j : Nat) (m : Int) (l : List Int) (i : Int), 0 ≤ m → m ≤ 18446744073709551615 → 0 ≤ i → i < l.length → l.length = 8 → instarref01_Put.l1 (j + 1) m l i = instarref01_Put.l1 j (m / 256) (l.set i.toNat (m % 256)) (i - 1) := by
    intro j m l i h0 h1 i0 i1 hl
    obtain ⟨s1, s2⟩ := st m h0 h1
    simp only [instarref01_Put.l1]
    rw [if_pos i0, if_pos i0, if_pos i1, s1, s2]
    have : wrap64 (i - 1) = i - 1 := by unfold wrap64; omega
    rw [this]
  rw [rnd _ n _ 7 hn.1 hn.2 (by decide) (by simp) rfl]
  rw [rnd _ _ _ (7 - 1) (by omega) (by omega) (by decide) (by simp) rfl]
  rw [rnd _ _ _ (7 - 1 - 1) (by omega) (by omega) (by decide) (by simp) rfl]
  rw [rnd _ _ _ (7 - 1 - 1 - 1) (by omega) (by omega) (by decide) (by simp) rfl]
  rw [rnd _ _ _ (7 - 1 - 1 - 1 - 1) (by omega) (by omega) (by decide) (by simp) rfl]
  rw [rnd _ _ _ (7 - 1 - 1 - 1 - 1 - 1) (by omega) (by omega) (by decide) (by simp) rfl]
  rw [rnd _ _ _ (7 - 1 - 1 - 1 - 1 - 1 - 1) (by omega) (by omega) (by decide) (by simp) rfl]
  rw [rnd _ _ _ (7 - 1 - 1 - 1 - 1 - 1 - 1 - 1) (by omega) (by omega) (by decide) (by simp) rfl]
  simp only [instarref01_Put.l1]
  rw [if_neg (by decide)]
  congr 2
  simp [putBytes]
  omega

theorem bt_put (n : Int) (hn : 0 ≤ n ∧ n ≤ 18446744073709551615) (i : Nat) (hi : i < 8) : Go.Proofs.YtknkaaleafiifaaDoorW.PrintWords.bt (strOfNums (putBytes n)) i = (putBytes n).getD i 0 := by
  have hs := put_size n
  have hb : ∀ j : Nat, (hj : j < (strOfNums (putBytes n)).size) → (((strOfNums (putBytes n))[j]'hj).toNat : Int) = (putBytes n).getD j 0 := by
    intro j hj
    have hl : j < (putBytes n).length := by rw [hs] at hj; exact hj
    have hm := put_bytes n hn ((putBytes n)[j]) (List.getElem_mem hl)
    have e : (strOfNums (putBytes n))[j]'hj = UInt8.ofNat ((putBytes n)[j]).toNat := by
      show (strOfNums (putBytes n)).data[j] = _
      simp [strOfNums]
    rw [e]
    simp [List.getD, List.getElem?_eq_getElem hl]
    omega
  unfold Go.Proofs.YtknkaaleafiifaaDoorW.PrintWords.bt
  rw [dif_pos (by simp; omega)]
  exact hb _ _
theorem get_put (k : Nat) (n : Int) (hn : 0 ≤ n ∧ n ≤ 18446744073709551615) : num_Get.f (k + 9) (strOfNums (putBytes n)) = some (n, 0) := by
  unfold num_Get.f
  rw [if_pos (by rw [put_size]; rfl)]
  have rnd : ∀ (j : Nat) (x : Int) (i : Nat), 0 ≤ x → x * 256 + 255 ≤ 18446744073709551615 → i < 8 → num_Get.l0 (j + 1) (strOfNums (putBytes n)) x i = num_Get.l0 j (strOfNums (putBytes n)) (x * 256 + (putBytes n).getD i 0) (i + 1 : Nat) := by
    intro j x i h0 h1 hi
    have hb := bt_put n hn i hi
    have hr := Go.Proofs.YtknkaaleafiifaaDoorW.PrintWords.bt_range (strOfNums (putBytes n)) i
    rw [hb] at hr
    simp only [num_Get.l0]
    rw [if_pos (by omega), if_pos (by omega), if_pos (by rw [put_size]; omega), hb]
    have e1 : IntKind.u64.wrap (x * 256) = x * 256 := by simp only [IntKind.wrap_u64]; omega
    have e2 : IntKind.u64.wrap ((putBytes n).getD i 0) = (putBytes n).getD i 0 := by simp only [IntKind.wrap_u64]; omega
    rw [e1, e2, or_byte _ _ (by omega) (by omega) (by omega) (by omega) (by omega)]
    have e3 : wrap64 ((i : Int) + 1) = ((i + 1 : Nat) : Int) := by unfold wrap64; omega
    rw [e3]
  have d0 : (putBytes n).getD 0 0 = n / 72057594037927936 := rfl
  have d1 : (putBytes n).getD 1 0 = n / 281474976710656 % 256 := rfl
  have d2 : (putBytes n).getD 2 0 = n / 1099511627776 % 256 := rfl
  have d3 : (putBytes n).getD 3 0 = n / 4294967296 % 256 := rfl
  have d4 : (putBytes n).getD 4 0 = n / 16777216 % 256 := rfl
  have d5 : (putBytes n).getD 5 0 = n / 65536 % 256 := rfl
  have d6 : (putBytes n).getD 6 0 = n / 256 % 256 := rfl
  have d7 : (putBytes n).getD 7 0 = n % 256 := rfl
  rw [show (0 : Int) = ((0 : Nat) : Int) from rfl]
  rw [rnd _ _ 0 (by omega) (by omega) (by decide), d0]
  rw [rnd _ _ _ (by omega) (by omega) (by decide), d1]
  rw [rnd _ _ _ (by omega) (by omega) (by decide), d2]
  rw [rnd _ _ _ (by omega) (by omega) (by decide), d3]
  rw [rnd _ _ _ (by omega) (by omega) (by decide), d4]
  rw [rnd _ _ _ (by omega) (by omega) (by decide), d5]
  rw [rnd _ _ _ (by omega) (by omega) (by decide), d6]
  rw [rnd _ _ _ (by omega) (by omega) (by decide), d7]
  simp only [num_Get.l0]
  rw [if_neg (by decide)]
  congr 2
  omega

end Go.Proofs.YtknkaaleafiifaaDoor.NumFn
