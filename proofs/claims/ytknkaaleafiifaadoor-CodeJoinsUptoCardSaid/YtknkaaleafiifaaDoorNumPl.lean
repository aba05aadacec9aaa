/- Plain laws on whole numbers, their bits and their bytes: no program in sight; no condition beyond the ranges that stand in each. -/
import Derived.Laws.BytesArg
import Derived.Laws.BitsLemmas
import Derived.Laws.Strings
import Derived.WalkKit
import Derived.Handy
namespace Go.Proofs.YtknkaaleafiifaaDoor.NumPl
open Go.RowKit

theorem wf_i64 {a : Int} (h : (Lit.int .i64 a).wf = true) : -9223372036854775808 ≤ a ∧ a ≤ 9223372036854775807 := by
  simp [Lit.wf, IntKind.min, IntKind.max, IntKind.bits, IntKind.signed] at h; omega
theorem wf_u64 {a : Int} (h : (Lit.int .u64 a).wf = true) : 0 ≤ a ∧ a ≤ 18446744073709551615 := by
  simp [Lit.wf, IntKind.min, IntKind.max, IntKind.bits, IntKind.signed] at h; omega

theorem xor_u64 (x y : Nat) (hx : x < 18446744073709551616) (hy : y < 18446744073709551616) : bits .xor .u64 x y = ((x ^^^ y : Nat) : Int) := by
  have h : x ^^^ y < 18446744073709551616 := Nat.xor_lt_two_pow (n := 64) hx hy
  have e : ∀ n : Nat, n < 18446744073709551616 → n % 2 ^ IntKind.u64.bits = n := fun n hn => Nat.mod_eq_of_lt hn
  simp only [bits, BitVec.ofInt_natCast, BitVec.toNat_xor, BitVec.toNat_ofNat, e x hx, e y hy]
  rw [IntKind.wrap_u64]; omega
theorem and1_u64 (x : Int) (h0 : 0 ≤ x) (h1 : x ≤ 18446744073709551615) : bits .and .u64 x 1 = x % 2 := by
  have := bits_mask .u64 64 (by decide) (fun n a b => by rw [IntKind.wrap_u64]; omega) 1 (by decide) x h0 (by omega)
  simpa using this
theorem or_byte (x y : Int) (h0 : 0 ≤ x) (h1 : x ≤ 18446744073709551615) (hx : x % 256 = 0) (h2 : 0 ≤ y) (h3 : y < 256) : bits .or .u64 x y = x + y :=
  bits_join .u64 64 (by decide) (fun n a b => by rw [IntKind.wrap_u64]; omega) 8 x y h0 hx (by omega) h2 (by omega) (by omega)
theorem xor_zero_u64 (x : Int) (h0 : 0 ≤ x) (h1 : x ≤ 18446744073709551615) : bits .xor .u64 x 0 = x := by
  obtain ⟨n, rfl⟩ := Int.eq_ofNat_of_zero_le h0
  have := xor_u64 n 0 (by omega) (by omega)
  simpa using this
theorem xor_ones_u64 (x : Int) (h0 : 0 ≤ x) (h1 : x ≤ 18446744073709551615) : bits .xor .u64 x 18446744073709551615 = 18446744073709551615 - x := by
  obtain ⟨n, rfl⟩ := Int.eq_ofNat_of_zero_le h0
  have h := xor_u64 n 18446744073709551615 (by omega) (by omega)
  have e : n ^^^ 18446744073709551615 = 18446744073709551615 - n := by
    have : (BitVec.ofNat 64 n ^^^ BitVec.allOnes 64).toNat = (~~~ (BitVec.ofNat 64 n)).toNat := by rw [BitVec.xor_allOnes]
    rw [BitVec.toNat_xor, BitVec.toNat_not] at this
    simp at this
    rw [Nat.mod_eq_of_lt (by omega)] at this
    exact this
  rw [e] at h
  have c : ((18446744073709551615 : Nat) : Int) = 18446744073709551615 := rfl
  rw [c] at h
  rw [h]; omega
theorem xor_top_u64 (x : Int) (h0 : 0 ≤ x) (h1 : x ≤ 18446744073709551615) : bits .xor .u64 x 9223372036854775808 = (x + 9223372036854775808) % 18446744073709551616 := by
  obtain ⟨n, rfl⟩ := Int.eq_ofNat_of_zero_le h0
  have h := xor_u64 n 9223372036854775808 (by omega) (by omega)
  have e : n ^^^ 9223372036854775808 = (n + 9223372036854775808) % 18446744073709551616 := by
    have d := Nat.xor_div_two_pow (a := n) (b := 9223372036854775808) (n := 63)
    have m := Nat.xor_mod_two_pow (a := n) (b := 9223372036854775808) (n := 63)
    have p : (2 : Nat) ^ 63 = 9223372036854775808 := rfl
    rw [p] at d m
    have d2 : (9223372036854775808 : Nat) / 9223372036854775808 = 1 := rfl
    have m2 : (9223372036854775808 : Nat) % 9223372036854775808 = 0 := rfl
    rw [d2] at d
    rw [m2, Nat.xor_zero] at m
    have q : n / 9223372036854775808 = 0 ∨ n / 9223372036854775808 = 1 := by omega
    rcases q with q | q
    · rw [q] at d
      have d3 : (0 : Nat) ^^^ 1 = 1 := rfl
      rw [d3] at d
      omega
    · rw [q] at d
      have d3 : (1 : Nat) ^^^ 1 = 0 := rfl
      rw [d3] at d
      omega
  rw [e] at h
  have c : ((9223372036854775808 : Nat) : Int) = 9223372036854775808 := rfl
  rw [c] at h
  rw [h]; omega
theorem xor_top_u32 (n : Int) (hn : -2147483648 ≤ n ∧ n ≤ 2147483647) : IntKind.u64.wrap (bits .xor .u32 (n % 4294967296) 2147483648) = n + 2147483648 := by
  obtain ⟨m, hm⟩ := Int.eq_ofNat_of_zero_le (show 0 ≤ n % 4294967296 by omega)
  have hlt : m < 4294967296 := by omega
  have e : ∀ k : Nat, k < 4294967296 → k % 2 ^ IntKind.u32.bits = k := fun k hk => Nat.mod_eq_of_lt hk
  have h : bits .xor .u32 (m : Int) ((2147483648 : Nat) : Int) = ((m ^^^ 2147483648 : Nat) : Int) := by
    have hx : m ^^^ 2147483648 < 4294967296 := Nat.xor_lt_two_pow (n := 32) hlt (by decide)
    simp only [bits, BitVec.ofInt_natCast, BitVec.toNat_xor, BitVec.toNat_ofNat, e m hlt, e 2147483648 (by decide)]
    rw [IntKind.wrap_u32]; omega
  have e2 : m ^^^ 2147483648 = (m + 2147483648) % 4294967296 := by
    have d := Nat.xor_div_two_pow (a := m) (b := 2147483648) (n := 31)
    have m' := Nat.xor_mod_two_pow (a := m) (b := 2147483648) (n := 31)
    have p : (2 : Nat) ^ 31 = 2147483648 := rfl
    rw [p] at d m'
    have d2 : (2147483648 : Nat) / 2147483648 = 1 := rfl
    have m2 : (2147483648 : Nat) % 2147483648 = 0 := rfl
    rw [d2] at d
    rw [m2, Nat.xor_zero] at m'
    have q : m / 2147483648 = 0 ∨ m / 2147483648 = 1 := by omega
    rcases q with q | q
    · rw [q] at d
      have d3 : (0 : Nat) ^^^ 1 = 1 := rfl
      rw [d3] at d
      omega
    · rw [q] at d
      have d3 : (1 : Nat) ^^^ 1 = 0 := rfl
      rw [d3] at d
      omega
  have c : ((2147483648 : Nat) : Int) = 2147483648 := rfl
  rw [c, e2] at h
  rw [hm, h, IntKind.wrap_u64]
  omega
theorem xor_zero_i64 (x : Int) (h0 : 0 ≤ x) (h1 : x ≤ 9223372036854775807) : bits .xor .i64 x 0 = x := by
  obtain ⟨n, rfl⟩ := Int.eq_ofNat_of_zero_le h0
  have e : n % 2 ^ IntKind.i64.bits = n := Nat.mod_eq_of_lt (show n < 2 ^ 64 by omega)
  have z : (0 : Int) = ((0 : Nat) : Int) := rfl
  rw [z]
  simp only [bits, BitVec.ofInt_natCast, BitVec.toNat_xor, BitVec.toNat_ofNat, e]
  rw [IntKind.wrap_i64]
  simp; omega
theorem xor_ones_i64 (x : Int) (h0 : 0 ≤ x) (h1 : x ≤ 9223372036854775807) : bits .xor .i64 x (-1) = -1 - x := by
  obtain ⟨n, rfl⟩ := Int.eq_ofNat_of_zero_le h0
  have a : BitVec.ofInt 64 (-1) = BitVec.allOnes 64 := by decide
  show IntKind.i64.wrap ((BitVec.ofInt 64 (n : Int) ^^^ BitVec.ofInt 64 (-1)).toNat) = _
  rw [BitVec.ofInt_natCast, a, BitVec.xor_allOnes, BitVec.toNat_not, BitVec.toNat_ofNat, Nat.mod_eq_of_lt (by omega)]
  rw [IntKind.wrap_i64]
  omega

/-- What a row of bytes comes to, the highest first. -/
def val : List Int → Int → Int
  | [], n => n
  | b :: l, n => val l (n * 256 + b)
theorem val_lt (l : List Int) (hl : ∀ b ∈ l, 0 ≤ b ∧ b ≤ 255) : ∀ n m, n < m → val l n < val l m := by
  induction l with
  | nil => intro n m h; exact h
  | cons b l ih => intro n m h; exact ih (fun c hc => hl c (.tail _ hc)) _ _ (by omega)
theorem val_less (xs : List Int) : ∀ (ys : List Int) (n m : Int), xs.length = ys.length → (∀ b ∈ xs, 0 ≤ b ∧ b ≤ 255) → (∀ b ∈ ys, 0 ≤ b ∧ b ≤ 255) → n < m → val xs n < val ys m := by
  induction xs with
  | nil => intro ys n m hl _ _ h; cases ys with | nil => exact h | cons => simp at hl
  | cons x xs ih =>
    intro ys n m hl hx hy h
    cases ys with
    | nil => simp at hl
    | cons y ys =>
      have a := hx x (.head _)
      have b := hy y (.head _)
      exact ih ys _ _ (by simpa using hl) (fun c hc => hx c (.tail _ hc)) (fun c hc => hy c (.tail _ hc)) (by omega)
theorem bytesLess_val (xs : List Int) : ∀ (ys : List Int) (n : Int), xs.length = ys.length → (∀ b ∈ xs, 0 ≤ b ∧ b ≤ 255) → (∀ b ∈ ys, 0 ≤ b ∧ b ≤ 255) →
    Op.bytesLess (xs.map fun n => UInt8.ofNat n.toNat) (ys.map fun n => UInt8.ofNat n.toNat) = decide (val xs n < val ys n) := by
  induction xs with
  | nil => intro ys n hl _ _; cases ys with | nil => simp [Op.bytesLess] | cons => simp at hl
  | cons x xs ih =>
    intro ys n hl hx hy
    cases ys with
    | nil => simp at hl
    | cons y ys =>
      have a := hx x (.head _)
      have b := hy y (.head _)
      have hl' : xs.length = ys.length := by simpa using hl
      have hx' := fun c hc => hx c (.tail _ hc)
      have hy' := fun c hc => hy c (.tail _ hc)
      have ex : (UInt8.ofNat x.toNat).toNat = x.toNat := by simp; omega
      have ey : (UInt8.ofNat y.toNat).toNat = y.toNat := by simp; omega
      rcases Int.lt_trichotomy x y with h | h | h
      · have l1 := val_less xs ys (n * 256 + x) (n * 256 + y) hl' hx' hy' (by omega)
        have l2 : (UInt8.ofNat x.toNat) < (UInt8.ofNat y.toNat) := by rw [UInt8.lt_iff_toNat_lt, ex, ey]; omega
        simp [Op.bytesLess, val, l1, l2]
      · subst h
        have i := ih ys (n * 256 + x) hl' hx' hy'
        simp only [List.map_cons, Op.bytesLess, val]
        rw [i]
        simp
        exact decide_eq_decide.2 Iff.rfl
      · have l1 := val_less ys xs (n * 256 + y) (n * 256 + x) hl'.symm hy' hx' (by omega)
        have l2 : ¬ (UInt8.ofNat x.toNat) < (UInt8.ofNat y.toNat) := by rw [UInt8.lt_iff_toNat_lt, ex, ey]; omega
        have l3 : ¬ (UInt8.ofNat x.toNat) = (UInt8.ofNat y.toNat) := by
          intro e
          have := congrArg UInt8.toNat e
          rw [ex, ey] at this
          omega
        have l4 : ¬ val xs (n * 256 + x) < val ys (n * 256 + y) := by omega
        simp [Op.bytesLess, val, l2, l3, l4]
theorem bytes_inj (xs : List Int) : ∀ ys : List Int, (∀ b ∈ xs, 0 ≤ b ∧ b ≤ 255) → (∀ b ∈ ys, 0 ≤ b ∧ b ≤ 255) →
    (xs.map fun n => UInt8.ofNat n.toNat) = (ys.map fun n => UInt8.ofNat n.toNat) → xs = ys := by
  induction xs with
  | nil => intro ys _ _ h; cases ys with | nil => rfl | cons => simp at h
  | cons x xs ih =>
    intro ys hx hy h
    cases ys with
    | nil => simp at h
    | cons y ys =>
      have a := hx x (.head _)
      have b := hy y (.head _)
      simp only [List.map_cons, List.cons.injEq] at h
      have e := congrArg UInt8.toNat h.1
      simp at e
      have : x = y := by omega
      rw [this, ih ys (fun c hc => hx c (.tail _ hc)) (fun c hc => hy c (.tail _ hc)) h.2]
end Go.Proofs.YtknkaaleafiifaaDoor.NumPl
