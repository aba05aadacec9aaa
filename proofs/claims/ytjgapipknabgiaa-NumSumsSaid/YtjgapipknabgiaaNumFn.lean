/- What each function of the program's layer num, and of its reference, comes to, in plain numbers; no condition beyond the ranges that stand in each. -/
import Derived.Test.YtjgapipknabgiaaH3
import Derived.Test.YtjgapipknabgiaaNumPl
namespace Go.Proofs.Ytjgapipknabgiaa.NumFn
open Go.RowKit Go.Proofs.Ytjgapipknabgiaa.Hp Go.Proofs.Ytjgapipknabgiaa.NumPl

theorem alive_true : instarlaw01_alive.f = some true := by kernel_rfl

def overs (n : Int) : Int × Int := if inI64 n = true then (n, 0) else (0, 11)
theorem add_f (a b : Int) (ha : -9223372036854775808 ≤ a ∧ a ≤ 9223372036854775807) (hb : -9223372036854775808 ≤ b ∧ b ≤ 9223372036854775807) : num_Add.f a b = some (overs (a + b)) := by
  unfold num_Add.f overs inI64
  by_cases h1 : -9223372036854775808 ≤ a + b
  · by_cases h2 : a + b ≤ 9223372036854775807
    · have w : wrap64 (a + b) = a + b := by unfold wrap64; omega
      rw [w, if_pos (by by_cases h : b > 0 <;> simp <;> omega), if_pos (by simp [h1, h2])]
    · have w : wrap64 (a + b) = a + b - 18446744073709551616 := by unfold wrap64; omega
      rw [w, if_neg (by simp; omega), if_neg (by simp [h2])]
  · have w : wrap64 (a + b) = a + b + 18446744073709551616 := by unfold wrap64; omega
    rw [w, if_neg (by simp; omega), if_neg (by simp [h1])]
theorem sub_f (a b : Int) (ha : -9223372036854775808 ≤ a ∧ a ≤ 9223372036854775807) (hb : -9223372036854775808 ≤ b ∧ b ≤ 9223372036854775807) : num_Sub.f a b = some (overs (a - b)) := by
  unfold num_Sub.f overs inI64
  by_cases h1 : -9223372036854775808 ≤ a - b
  · by_cases h2 : a - b ≤ 9223372036854775807
    · have w : wrap64 (a - b) = a - b := by unfold wrap64; omega
      rw [w, if_pos (by by_cases h : b > 0 <;> simp <;> omega), if_pos (by simp [h1, h2])]
    · have w : wrap64 (a - b) = a - b - 18446744073709551616 := by unfold wrap64; omega
      rw [w, if_neg (by simp; omega), if_neg (by simp [h2])]
  · have w : wrap64 (a - b) = a - b + 18446744073709551616 := by unfold wrap64; omega
    rw [w, if_neg (by simp; omega), if_neg (by simp [h1])]
theorem mul_f (a b : Int) (ha : -9223372036854775808 ≤ a ∧ a ≤ 9223372036854775807) (hb : -9223372036854775808 ≤ b ∧ b ≤ 9223372036854775807) : num_Mul.f a b = some (overs (a * b)) := by
  unfold num_Mul.f overs
  rw [if_pos (by simp [inI64]; omega), if_pos (by simp [inI64]; omega)]
  split <;> rfl
theorem refadd_f (a b : Int) (ha : -9223372036854775808 ≤ a ∧ a ≤ 9223372036854775807) (hb : -9223372036854775808 ≤ b ∧ b ≤ 9223372036854775807) : instarref01_Add.f a b = some (overs (a + b)) := by
  have w0 : wrap64 (9223372036854775807 - b) = 9223372036854775807 - b ∨ b < 0 := by unfold wrap64; omega
  have w1 : wrap64 ((-9223372036854775808) - b) = (-9223372036854775808) - b ∨ b > 0 := by unfold wrap64; omega
  have w2 : inI64 (a + b) = true → wrap64 (a + b) = a + b := fun h => by have := inI64_of h; unfold wrap64; omega
  unfold instarref01_Add.f overs
  by_cases h : inI64 (a + b) = true
  · have k := inI64_of h
    rw [if_pos h, w2 h]
    by_cases c1 : b > 0
    · rw [if_pos c1, if_neg (by omega), if_neg (by omega)]
    · rw [if_neg c1]
      by_cases c2 : b < 0
      · rw [if_pos c2, if_neg (by omega)]
      · rw [if_neg c2]
  · rw [if_neg h]
    have k : ¬ (-9223372036854775808 ≤ a + b ∧ a + b ≤ 9223372036854775807) := by simpa [inI64] using h
    by_cases c1 : b > 0
    · rw [if_pos c1, if_pos (by omega)]
    · rw [if_neg c1]
      by_cases c2 : b < 0
      · rw [if_pos c2, if_pos (by omega)]
      · omega
theorem refsub_f (a b : Int) (ha : -9223372036854775808 ≤ a ∧ a ≤ 9223372036854775807) (hb : -9223372036854775808 ≤ b ∧ b ≤ 9223372036854775807) : instarref01_Sub.f a b = some (overs (a - b)) := by
  have w0 : wrap64 (9223372036854775807 + b) = 9223372036854775807 + b ∨ b > 0 := by unfold wrap64; omega
  have w1 : wrap64 ((-9223372036854775808) + b) = (-9223372036854775808) + b ∨ b < 0 := by unfold wrap64; omega
  have w2 : inI64 (a - b) = true → wrap64 (a - b) = a - b := fun h => by have := inI64_of h; unfold wrap64; omega
  unfold instarref01_Sub.f overs
  by_cases h : inI64 (a - b) = true
  · have k := inI64_of h
    rw [if_pos h, w2 h]
    by_cases c1 : b < 0
    · rw [if_pos c1, if_neg (by omega), if_neg (by omega)]
    · rw [if_neg c1]
      by_cases c2 : b > 0
      · rw [if_pos c2, if_neg (by omega)]
      · rw [if_neg c2]
  · rw [if_neg h]
    have k : ¬ (-9223372036854775808 ≤ a - b ∧ a - b ≤ 9223372036854775807) := by simpa [inI64] using h
    by_cases c1 : b < 0
    · rw [if_pos c1, if_pos (by omega)]
    · rw [if_neg c1]
      by_cases c2 : b > 0
      · rw [if_pos c2, if_pos (by omega)]
      · omega
theorem neg_f (a : Int) (ha : -9223372036854775808 ≤ a ∧ a ≤ 9223372036854775807) : num_Neg.f a = some (overs (0 - a)) := by
  unfold num_Neg.f
  rw [sub_f 0 a (by omega) ha]; rfl

theorem tdiv_range (p b : Int) : p.tdiv b * b + p.tmod b = p ∧ (b ≠ 0 → (p.tmod b).natAbs < b.natAbs) := by
  refine ⟨Int.tdiv_mul_add_tmod p b, fun h => ?_⟩
  rw [Int.natAbs_tmod]
  exact Nat.mod_lt _ (by omega)
theorem wrapped (n : Int) : ∃ m, wrap64 n = n - m * 18446744073709551616 ∧ -9223372036854775808 ≤ wrap64 n ∧ wrap64 n ≤ 9223372036854775807 :=
  ⟨(n + 9223372036854775808) / 18446744073709551616, by unfold wrap64; omega, by unfold wrap64; omega, by unfold wrap64; omega⟩
theorem tdiv_abs (p b : Int) : (p.tdiv b).natAbs ≤ p.natAbs := by
  rw [Int.natAbs_tdiv]; exact Nat.div_le_self _ _
theorem mul_div (a b : Int) (ha : -9223372036854775808 ≤ a ∧ a ≤ 9223372036854775807) (hb : -9223372036854775808 ≤ b ∧ b ≤ 9223372036854775807) (h0 : b ≠ 0) (hm : ¬ (b = -1 ∧ a = -9223372036854775808)) :
    (wrap64 (Int.tdiv (wrap64 (a * b)) b) = a) ↔ inI64 (a * b) = true := by
  constructor
  · intro h
    obtain ⟨m, hp, h1, h2⟩ := wrapped (a * b)
    generalize hpp : wrap64 (a * b) = p at *
    obtain ⟨t1, t2⟩ := tdiv_range p b
    have t3 := t2 h0
    have t4 := tdiv_abs p b
    obtain ⟨m2, hq, q1, q2⟩ := wrapped (p.tdiv b)
    rw [h] at hq q1 q2
    have m20 : m2 = 0 ∨ (p.tdiv b = 9223372036854775808 ∧ a = -9223372036854775808) := by omega
    rcases m20 with m20 | ⟨d1, d2⟩
    · have e : p.tdiv b = a := by omega
      rw [e] at t1
      have : m = 0 := by omega
      subst this
      simp [inI64]; omega
    · exfalso
      have : p = -9223372036854775808 := by omega
      rw [d1] at t1
      have hb1 : b.natAbs = 1 ∨ 2 ≤ b.natAbs := by omega
      rcases hb1 with k | k
      · have : b = -1 ∨ b = 1 := by omega
        rcases this with k | k
        · exact hm ⟨k, d2⟩
        · subst k; omega
      · omega
  · intro h
    have k := inI64_of h
    have w : wrap64 (a * b) = a * b := by unfold wrap64; omega
    rw [w, Int.mul_tdiv_cancel a h0]
    unfold wrap64; omega
theorem refmul_f (k : Nat) (a b : Int) (ha : -9223372036854775808 ≤ a ∧ a ≤ 9223372036854775807) (hb : -9223372036854775808 ≤ b ∧ b ≤ 9223372036854775807) : instarref01_Mul.f (k + 1) a b = some (overs (a * b)) := by
  unfold instarref01_Mul.f
  by_cases a0 : a = 0
  · subst a0; simp [instarref01_Mul.j0, overs, inI64]
  rw [if_neg a0]
  by_cases b0 : b = 0
  · subst b0; simp [instarref01_Mul.j0, overs, inI64]
  have bb : (b == 0) = false := by simpa using b0
  rw [bb]
  simp only [instarref01_Mul.j0, Bool.false_eq_true, if_false, if_neg b0]
  have last : ¬ (b = -1 ∧ a = -9223372036854775808) → (if (wrap64 (Int.tdiv (wrap64 (a * b)) b)) = a then (some (wrap64 (a * b), 0)) else (some (0, 11))) = some (overs (a * b)) := by
    intro hm
    have d := mul_div a b ha hb b0 hm
    unfold overs
    by_cases h : inI64 (a * b) = true
    · have k := inI64_of h
      rw [if_pos (d.2 h), if_pos h]
      have w : wrap64 (a * b) = a * b := by unfold wrap64; omega
      rw [w]
    · rw [if_neg (fun z => h (d.1 z)), if_neg h]
  have over : a * b = 9223372036854775808 → (some (0, 11) : Option (Int × Int)) = some (overs (a * b)) := by
    intro h; rw [h]; rfl
  by_cases a1 : a = -1
  · rw [if_pos a1]
    by_cases b1 : b = -9223372036854775808
    · rw [if_pos b1]; exact over (by subst a1 b1; rfl)
    · rw [if_neg b1]
      by_cases b2 : b = -1
      · rw [if_pos b2, if_neg (by omega)]; exact last (by omega)
      · rw [if_neg b2]; exact last (by omega)
  · rw [if_neg a1]
    by_cases b2 : b = -1
    · rw [if_pos b2]
      by_cases a2 : a = -9223372036854775808
      · rw [if_pos a2]; exact over (by subst a2 b2; rfl)
      · rw [if_neg a2]; exact last (by omega)
    · rw [if_neg b2]; exact last (by omega)

theorem narrow_f (a : Int) : num_Narrow.f a = instarref01_Narrow.f a := rfl
theorem narrow_some (a : Int) : ∃ r, num_Narrow.f a = some r := by
  unfold num_Narrow.f
  split
  · exact ⟨_, rfl⟩
  · split <;> exact ⟨_, rfl⟩

def zig (a : Int) : Int := if a ≥ 0 then 2 * a else -2 * a - 1
def zag (n : Int) : Int := if n % 2 = 0 then n / 2 else -(n / 2) - 1
def flp (a : Int) : Int := a + 9223372036854775808
def unflp (n : Int) : Int := n - 9223372036854775808
theorem zig_f (a : Int) (ha : -9223372036854775808 ≤ a ∧ a ≤ 9223372036854775807) : num_Zig.f a = some (zig a) := by
  unfold num_Zig.f zig
  by_cases h : a ≥ 0
  · have e1 : IntKind.u64.wrap (IntKind.u64.wrap a * 2) = 2 * a := by simp only [IntKind.wrap_u64]; omega
    have e2 : IntKind.u64.wrap (a / 9223372036854775808) = 0 := by simp only [IntKind.wrap_u64]; omega
    rw [e1, e2, xor_zero_u64 _ (by omega) (by omega), if_pos h]
  · have e1 : IntKind.u64.wrap (IntKind.u64.wrap a * 2) = 2 * a + 18446744073709551616 := by simp only [IntKind.wrap_u64]; omega
    have e2 : IntKind.u64.wrap (a / 9223372036854775808) = 18446744073709551615 := by simp only [IntKind.wrap_u64]; omega
    rw [e1, e2, xor_ones_u64 _ (by omega) (by omega), if_neg h]
    congr 1; omega
theorem refzig_f (a : Int) (ha : -9223372036854775808 ≤ a ∧ a ≤ 9223372036854775807) : instarref01_Zig.f a = some (zig a) := by
  unfold instarref01_Zig.f zig
  by_cases h : a ≥ 0
  · rw [if_pos h, if_pos h]; congr 1; simp only [IntKind.wrap_u64]; omega
  · rw [if_neg h, if_neg h]; congr 1; simp only [IntKind.wrap_u64]; unfold wrap64; omega
theorem zag_f (n : Int) (hn : 0 ≤ n ∧ n ≤ 18446744073709551615) : num_Zag.f n = some (zag n) := by
  unfold num_Zag.f zag
  rw [and1_u64 n hn.1 hn.2]
  have e1 : wrap64 (n / 2) = n / 2 := by unfold wrap64; omega
  rw [e1]
  by_cases h : n % 2 = 0
  · have e2 : wrap64 (-(wrap64 (n % 2))) = 0 := by unfold wrap64; omega
    rw [e2, xor_zero_i64 _ (by omega) (by omega), if_pos h]
  · have e2 : wrap64 (-(wrap64 (n % 2))) = -1 := by unfold wrap64; omega
    rw [e2, xor_ones_i64 _ (by omega) (by omega), if_neg h]
    congr 1; omega
theorem refzag_f (n : Int) (hn : 0 ≤ n ∧ n ≤ 18446744073709551615) : instarref01_Zag.f n = some (zag n) := by
  unfold instarref01_Zag.f zag
  have e1 : Int.tmod n 2 = n % 2 := Int.tmod_eq_emod_of_nonneg hn.1
  have e2 : Int.tdiv n 2 = n / 2 := Int.tdiv_eq_ediv_of_nonneg hn.1
  rw [e1, e2]
  by_cases h : n % 2 = 0
  · rw [if_pos h, if_pos h]; congr 1; simp only [IntKind.wrap_u64]; unfold wrap64; omega
  · rw [if_neg h, if_neg h]; congr 1; simp only [IntKind.wrap_u64]; unfold wrap64; omega
theorem flip_f (a : Int) (ha : -9223372036854775808 ≤ a ∧ a ≤ 9223372036854775807) : num_Flip.f a = some (flp a) := by
  unfold num_Flip.f flp
  rw [xor_top_u64 _ (by simp only [IntKind.wrap_u64]; omega) (by simp only [IntKind.wrap_u64]; omega)]
  congr 1; simp only [IntKind.wrap_u64]; omega
theorem refflip_f (a : Int) (ha : -9223372036854775808 ≤ a ∧ a ≤ 9223372036854775807) : instarref01_Flip.f a = some (flp a) := by
  unfold instarref01_Flip.f flp
  by_cases h : a ≥ 0
  · rw [if_pos h]; congr 1; simp only [IntKind.wrap_u64]; omega
  · rw [if_neg h]; congr 1; simp only [IntKind.wrap_u64]; unfold wrap64; omega
theorem unflip_f (n : Int) (hn : 0 ≤ n ∧ n ≤ 18446744073709551615) : num_Unflip.f n = some (unflp n) := by
  unfold num_Unflip.f unflp
  rw [xor_top_u64 _ hn.1 hn.2]
  congr 1; unfold wrap64; omega
theorem refunflip_f (n : Int) (hn : 0 ≤ n ∧ n ≤ 18446744073709551615) : instarref01_Unflip.f n = some (unflp n) := by
  unfold instarref01_Unflip.f unflp
  by_cases h : n ≥ 9223372036854775808
  · rw [if_pos h]; congr 1; simp only [IntKind.wrap_u64]; unfold wrap64; omega
  · rw [if_neg h]; congr 1; unfold wrap64; omega

theorem put_f (n : Int) (hn : 0 ≤ n ∧ n ≤ 18446744073709551615) : num_Put.f n = some (strOfNums (putBytes n)) := by
  unfold num_Put.f
  rw [if_pos hn.1, if_pos hn.2]
theorem put_bytes (n : Int) (hn : 0 ≤ n ∧ n ≤ 18446744073709551615) : ∀ b ∈ putBytes n, 0 ≤ b ∧ b ≤ 255 := by
  intro b hb
  simp [putBytes] at hb
  omega
theorem put_val (n : Int) : val (putBytes n) 0 = n := by
  simp only [putBytes, val]
  omega
theorem put_toList (n : Int) : (strOfNums (putBytes n)).toList = (putBytes n).map fun n => UInt8.ofNat n.toNat := by
  rw [ByteArray.toList_eq, strOfNums_data]
theorem put_less (x y : Int) (hx : 0 ≤ x ∧ x ≤ 18446744073709551615) (hy : 0 ≤ y ∧ y ≤ 18446744073709551615) :
    Op.bytesLess (strOfNums (putBytes x)).toList (strOfNums (putBytes y)).toList = decide (x < y) := by
  rw [put_toList, put_toList, bytesLess_val (putBytes x) (putBytes y) 0 rfl (put_bytes x hx) (put_bytes y hy), put_val, put_val]
theorem put_same (x y : Int) (hx : 0 ≤ x ∧ x ≤ 18446744073709551615) (hy : 0 ≤ y ∧ y ≤ 18446744073709551615) :
    ((strOfNums (putBytes x)).toList == (strOfNums (putBytes y)).toList) = (x == y) := by
  rw [put_toList, put_toList, Bool.eq_iff_iff, beq_iff_eq, beq_iff_eq]
  constructor
  · intro h
    have := bytes_inj _ _ (put_bytes x hx) (put_bytes y hy) h
    rw [← put_val x, ← put_val y, this]
  · rintro rfl; rfl
theorem put_size (n : Int) : (strOfNums (putBytes n)).size = 8 := by rw [strOfNums_size]; rfl
theorem refput_f (k : Nat) (n : Int) (hn : 0 ≤ n ∧ n ≤ 18446744073709551615) : instarref01_Put.f (k + 20) n = some (strOfNums (putBytes n)) := by
  unfold instarref01_Put.f
  have e0 : instarref01_Put.l0 (k + 20) n ([] : List Int) 0 = instarref01_Put.l1 (k + 11) n [0, 0, 0, 0, 0, 0, 0, 0] 7 := by
    simp [instarref01_Put.l0, wrap64]
  have st : ∀ (m : Int), 0 ≤ m → m ≤ 18446744073709551615 → IntKind.u64.wrap (Int.tdiv m 256) = m / 256 ∧ (Int.tmod m 256) % 256 = m % 256 := by
    intro m h0 h1
    rw [Int.tmod_eq_emod_of_nonneg h0, Int.tdiv_eq_ediv_of_nonneg h0]
    simp only [IntKind.wrap_u64]
    omega
  rw [e0]
  have rnd : ∀ (j : Nat) (m : Int) (l : List Int) (i : Int), 0 ≤ m → m ≤ 18446744073709551615 → 0 ≤ i → i < l.length → l.length = 8 → instarref01_Put.l1 (j + 1) m l i = instarref01_Put.l1 j (m / 256) (l.set i.toNat (m % 256)) (i - 1) := by
    intro j m l i h0 h1 i0 i1 hl
    obtain ⟨s1, s2⟩ := st m h0 h1
    simp only [instarref01_Put.l1]
    rw [if_pos i0, if_pos i0, if_pos i1, s1, s2]
    have : wrap64 (i - 1) = i - 1 := by unfold wrap64; omega
    rw [this]
  rw [rnd _ n _ 7 hn.1 hn.2 (by decide) (by simp) rfl]
  rw [rnd _ _ _ (7 - 1) (by omega) (by omega) (by decide) (by simp) rfl]
  rw [rnd _ _ _ (7 - 1 - 1) (by omega) (by omega) (by decide) (by simp) rfl]
  rw [rnd _ _ _ (7 - 1 - 1 - 1) (by omega) (by omega) (by decide) (by simp) rfl]
  rw [rnd _ _ _ (7 - 1 - 1 - 1 - 1) (by omega) (by omega) (by decide) (by simp) rfl]
  rw [rnd _ _ _ (7 - 1 - 1 - 1 - 1 - 1) (by omega) (by omega) (by decide) (by simp) rfl]
  rw [rnd _ _ _ (7 - 1 - 1 - 1 - 1 - 1 - 1) (by omega) (by omega) (by decide) (by simp) rfl]
  rw [rnd _ _ _ (7 - 1 - 1 - 1 - 1 - 1 - 1 - 1) (by omega) (by omega) (by decide) (by simp) rfl]
  simp only [instarref01_Put.l1]
  rw [if_neg (by decide)]
  congr 2
  simp [putBytes]
  omega

/-- Both readers go alike. -/
theorem get_round (s : ByteArray) (d : Nat) : ∀ (k : Nat) (x i : Int), 0 ≤ x → x ≤ 18446744073709551615 → 0 ≤ i → (8 : Int) ≤ s.size → 8 - i = d → d < k →
    ∃ r, num_Get.l0 k s x i = some (r, 0) ∧ instarref01_Get.l0 k s x i = some (r, 0) ∧ 0 ≤ r ∧ r ≤ 18446744073709551615 := by
  induction d with
  | zero =>
    intro k x i hx0 hx1 hi hs hd hk
    obtain ⟨k, rfl⟩ : ∃ m, k = m + 1 := ⟨k - 1, by omega⟩
    refine ⟨x, ?_, ?_, hx0, hx1⟩
    · simp only [num_Get.l0]; rw [if_neg (by omega)]
    · simp only [instarref01_Get.l0]; rw [if_neg (by omega)]
  | succ d ih =>
    intro k x i hx0 hx1 hi hs hd hk
    obtain ⟨k, rfl⟩ : ∃ m, k = m + 1 := ⟨k - 1, by omega⟩
    have hb := Go.Proofs.YtjgapipknabgiaaW.PrintWords.bt_range s i
    have hw : wrap64 (i + 1) = i + 1 := by unfold wrap64; omega
    have e1 : bits .or .u64 (IntKind.u64.wrap (x * 256)) (IntKind.u64.wrap (Go.Proofs.YtjgapipknabgiaaW.PrintWords.bt s i)) = IntKind.u64.wrap (IntKind.u64.wrap (256 * x) + IntKind.u64.wrap (Go.Proofs.YtjgapipknabgiaaW.PrintWords.bt s i)) := by
      rw [or_byte _ _ (by simp only [IntKind.wrap_u64]; omega) (by simp only [IntKind.wrap_u64]; omega) (by simp only [IntKind.wrap_u64]; omega) (by simp only [IntKind.wrap_u64]; omega) (by simp only [IntKind.wrap_u64]; omega)]
      simp only [IntKind.wrap_u64]; omega
    obtain ⟨r, r1, r2, r3⟩ := ih k (IntKind.u64.wrap (IntKind.u64.wrap (256 * x) + IntKind.u64.wrap (Go.Proofs.YtjgapipknabgiaaW.PrintWords.bt s i))) (i + 1) (by simp only [IntKind.wrap_u64]; omega) (by simp only [IntKind.wrap_u64]; omega) (by omega) hs (by omega) (by omega)
    refine ⟨r, ?_, ?_, r3⟩
    · simp only [num_Get.l0]
      rw [if_pos (by omega), if_pos hi, if_pos (by omega), e1, hw]; exact r1
    · simp only [instarref01_Get.l0]
      rw [if_pos (by omega), if_pos hi, if_pos (by omega), hw]; exact r2
theorem get_both (k : Nat) (s : ByteArray) : ∃ r, num_Get.f (k + 9) s = some r ∧ instarref01_Get.f (k + 9) s = some r := by
  unfold num_Get.f instarref01_Get.f
  by_cases h : (s.size : Int) = 8
  · obtain ⟨r, r1, r2, _⟩ := get_round s 8 (k + 9) 0 0 (by decide) (by decide) (by decide) (by omega) (by omega) (by omega)
    exact ⟨(r, 0), by rw [if_pos h]; exact r1, by rw [if_pos h]; exact r2⟩
  · exact ⟨(0, 41), by rw [if_neg h], by rw [if_neg h]⟩
/-- The number of any number's bytes. -/
theorem bt_put (n : Int) (hn : 0 ≤ n ∧ n ≤ 18446744073709551615) (i : Nat) (hi : i < 8) : Go.Proofs.YtjgapipknabgiaaW.PrintWords.bt (strOfNums (putBytes n)) i = (putBytes n).getD i 0 := by
  have hs := put_size n
  have hb : ∀ j : Nat, (hj : j < (strOfNums (putBytes n)).size) → (((strOfNums (putBytes n))[j]'hj).toNat : Int) = (putBytes n).getD j 0 := by
    intro j hj
    have hl : j < (putBytes n).length := by rw [hs] at hj; exact hj
    have hm := put_bytes n hn ((putBytes n)[j]) (List.getElem_mem hl)
    have e : (strOfNums (putBytes n))[j]'hj = UInt8.ofNat ((putBytes n)[j]).toNat := by
      show (strOfNums (putBytes n)).data[j] = _
      simp [strOfNums]
    rw [e]
    simp [List.getD, List.getElem?_eq_getElem hl]
    omega
  unfold Go.Proofs.YtjgapipknabgiaaW.PrintWords.bt
  rw [dif_pos (by simp; omega)]
  exact hb _ _
theorem get_put (k : Nat) (n : Int) (hn : 0 ≤ n ∧ n ≤ 18446744073709551615) : num_Get.f (k + 9) (strOfNums (putBytes n)) = some (n, 0) := by
  unfold num_Get.f
  rw [if_pos (by rw [put_size]; rfl)]
  have rnd : ∀ (j : Nat) (x : Int) (i : Nat), 0 ≤ x → x * 256 + 255 ≤ 18446744073709551615 → i < 8 → num_Get.l0 (j + 1) (strOfNums (putBytes n)) x i = num_Get.l0 j (strOfNums (putBytes n)) (x * 256 + (putBytes n).getD i 0) (i + 1 : Nat) := by
    intro j x i h0 h1 hi
    have hb := bt_put n hn i hi
    have hr := Go.Proofs.YtjgapipknabgiaaW.PrintWords.bt_range (strOfNums (putBytes n)) i
    rw [hb] at hr
    simp only [num_Get.l0]
    rw [if_pos (by omega), if_pos (by omega), if_pos (by rw [put_size]; omega), hb]
    have e1 : IntKind.u64.wrap (x * 256) = x * 256 := by simp only [IntKind.wrap_u64]; omega
    have e2 : IntKind.u64.wrap ((putBytes n).getD i 0) = (putBytes n).getD i 0 := by simp only [IntKind.wrap_u64]; omega
    rw [e1, e2, or_byte _ _ (by omega) (by omega) (by omega) (by omega) (by omega)]
    have e3 : wrap64 ((i : Int) + 1) = ((i + 1 : Nat) : Int) := by unfold wrap64; omega
    rw [e3]
  have d0 : (putBytes n).getD 0 0 = n / 72057594037927936 := rfl
  have d1 : (putBytes n).getD 1 0 = n / 281474976710656 % 256 := rfl
  have d2 : (putBytes n).getD 2 0 = n / 1099511627776 % 256 := rfl
  have d3 : (putBytes n).getD 3 0 = n / 4294967296 % 256 := rfl
  have d4 : (putBytes n).getD 4 0 = n / 16777216 % 256 := rfl
  have d5 : (putBytes n).getD 5 0 = n / 65536 % 256 := rfl
  have d6 : (putBytes n).getD 6 0 = n / 256 % 256 := rfl
  have d7 : (putBytes n).getD 7 0 = n % 256 := rfl
  rw [show (0 : Int) = ((0 : Nat) : Int) from rfl]
  rw [rnd _ _ 0 (by omega) (by omega) (by decide), d0]
  rw [rnd _ _ _ (by omega) (by omega) (by decide), d1]
  rw [rnd _ _ _ (by omega) (by omega) (by decide), d2]
  rw [rnd _ _ _ (by omega) (by omega) (by decide), d3]
  rw [rnd _ _ _ (by omega) (by omega) (by decide), d4]
  rw [rnd _ _ _ (by omega) (by omega) (by decide), d5]
  rw [rnd _ _ _ (by omega) (by omega) (by decide), d6]
  rw [rnd _ _ _ (by omega) (by omega) (by decide), d7]
  simp only [num_Get.l0]
  rw [if_neg (by decide)]
  congr 2
  omega
end Go.Proofs.Ytjgapipknabgiaa.NumFn
