/- The product of two numbers: what num.Mul comes to, proved by hand (one loop-free function whose tests the printer spells otherwise); no condition beyond the numbers' kinds. -/
import Derived.Test.YtjgapipknabgiaaShelf
import Derived.Test.YtjgapipknabgiaaWWords
import Derived.WalkKit
import Derived.Handy
import Derived.WalkLawsBesides
import Derived.WalkSpells
import Derived.Lib.Hide
namespace Go.Proofs.Ytjgapipknabgiaa
open Go.RowKit

def mulHi (a b : Int) : Int := ((a.natAbs * b.natAbs / 18446744073709551616 : Nat) : Int)
def mulLo (a b : Int) : Int := ((a.natAbs * b.natAbs % 18446744073709551616 : Nat) : Int)
theorem mulHi_range (a b : Int) : 0 ≤ mulHi a b := by unfold mulHi; omega
theorem mulLo_range (a b : Int) : 0 ≤ mulLo a b ∧ mulLo a b ≤ 18446744073709551615 := by unfold mulLo; omega
def inI64 (a : Int) : Bool := decide (-9223372036854775808 ≤ a) && decide (a ≤ 9223372036854775807)
theorem inI64_of {a : Int} (h : inI64 a = true) : -9223372036854775808 ≤ a ∧ a ≤ 9223372036854775807 := by simpa [inI64] using h
def num_Mul.f (a0 : Int) (a1 : Int) : Option (Int × Int) := if inI64 a0 = true then (if inI64 a1 = true then (if inI64 (a0 * a1) = true then some (a0 * a1, 0) else some (0, 11)) else none) else none

theorem mul_parts (a b : Int) : (a.natAbs : Int) * (b.natAbs : Int) = mulHi a b * 18446744073709551616 + mulLo a b := by
  unfold mulHi mulLo
  have := Nat.div_add_mod (a.natAbs * b.natAbs) 18446744073709551616
  have h2 : ((a.natAbs * b.natAbs : Nat) : Int) = (a.natAbs : Int) * (b.natAbs : Int) := by push_cast; rfl
  omega
theorem mul_same (a b : Int) (h : (a < 0 ↔ b < 0)) : a * b = mulHi a b * 18446744073709551616 + mulLo a b := by
  rw [← mul_parts]
  by_cases ha : a < 0
  · have hb := h.1 ha
    have e1 : (a.natAbs : Int) = -a := by omega
    have e2 : (b.natAbs : Int) = -b := by omega
    rw [e1, e2, Int.neg_mul_neg]
  · have hb : ¬ b < 0 := fun k => ha (h.2 k)
    have e1 : (a.natAbs : Int) = a := by omega
    have e2 : (b.natAbs : Int) = b := by omega
    rw [e1, e2]
theorem mul_other (a b : Int) (h : ¬ (a < 0 ↔ b < 0)) : a * b = -(mulHi a b * 18446744073709551616 + mulLo a b) := by
  rw [← mul_parts]
  by_cases ha : a < 0
  · have hb : ¬ b < 0 := fun k => h ⟨fun _ => k, fun _ => ha⟩
    have e1 : (a.natAbs : Int) = -a := by omega
    have e2 : (b.natAbs : Int) = b := by omega
    rw [e1, e2, Int.neg_mul, Int.neg_neg]
  · have hb : b < 0 := by
      rcases Int.lt_or_le b 0 with k | k
      · exact k
      · exact absurd ⟨fun z => absurd z ha, fun z => absurd z (by omega)⟩ h
    have e1 : (a.natAbs : Int) = a := by omega
    have e2 : (b.natAbs : Int) = -b := by omega
    rw [e1, e2, Int.mul_neg, Int.neg_neg]

theorem amount_any (a : Int) (w : World) (h0 : -9223372036854775808 ≤ a) (h1 : a ≤ 9223372036854775807) :
    Calls Try.prog 31 #[.int .i64 a] w fun e w' => e = .returned (.int .u64 ((a.natAbs : Nat) : Int)) ∧ w = w' := by
  by_cases ha : a < 0
  · have e : IntKind.u64.wrap (-(IntKind.u64.wrap a)) = ((a.natAbs : Nat) : Int) := by
      simp only [IntKind.wrap_u64]; omega
    have H := Lib.hid e
    clear e
    have hd : decide (a < 0) = true := decide_eq_true ha
    clear ha
    go_enter Try.func31, Try.ntmps31
    go_wp2
    go_ret
    exact ⟨by rw [← H.out]; rfl, rfl⟩
  · have e : IntKind.u64.wrap a = ((a.natAbs : Nat) : Int) := by
      simp only [IntKind.wrap_u64]; omega
    have H := Lib.hid e
    clear e
    have hd : decide (a < 0) = false := decide_eq_false ha
    clear ha
    go_enter Try.func31, Try.ntmps31
    go_wp2
    go_ret
    exact ⟨by rw [← H.out]; rfl, rfl⟩

theorem mul64_any (a b : Int) (w : World) (ha : inI64 a = true) (hb : inI64 b = true) :
    Calls Try.prog 30 #[.int .u64 ((a.natAbs : Nat) : Int), .int .u64 ((b.natAbs : Nat) : Int)] w fun e w' => e = .returned (.tuple #[.int .u64 (mulHi a b), .int .u64 (mulLo a b)]) ∧ w = w' := by
  have := inI64_of ha
  have := inI64_of hb
  exact (Try.bits_Mul64 a.natAbs b.natAbs (by omega) (by omega) w).mono fun e w' ⟨he, hw⟩ => ⟨he, hw.symm⟩

def MulPost (r1 r2 : Int) (w : World) (e : Ending) (w' : World) : Prop := e = .returned (.tuple #[.int .i64 r1, .int .i64 r2]) ∧ w = w'

/-- The walk, its tests decided ahead. -/
theorem mul_walk (a b : Int) (w : World) (ha : inI64 a = true) (hb : inI64 b = true) (r1 r2 : Int)
    (hr : num_Mul.f a b = some (r1, r2)) :
    Calls Try.prog 23 #[.int .i64 a, .int .i64 b] w (MulPost r1 r2 w) := by
  have a2 := inI64_of ha
  have b2 := inI64_of hb
  have ca : Calls Try.prog 31 #[.int .i64 a] w _ := amount_any a w a2.1 a2.2
  have cb : Calls Try.prog 31 #[.int .i64 b] w _ := amount_any b w b2.1 b2.2
  have cm := mul64_any a b w ha hb
  have fin : (if 0 < mulHi a b ∨ 9223372036854775808 < mulLo a b then (0, 11) else if (decide (a < 0) != decide (b < 0)) = true then (wrap64 (IntKind.u64.wrap (-(mulLo a b))), 0) else if mulLo a b = 9223372036854775808 then (0, 11) else (wrap64 (mulLo a b), 0)) = (r1, r2) := by
    have hn := mulHi_range a b
    have hl := mulLo_range a b
    unfold num_Mul.f at hr
    rw [if_pos ha, if_pos hb] at hr
    by_cases hs : (a < 0 ↔ b < 0)
    · have e := mul_same a b hs
      have d : (decide (a < 0) != decide (b < 0)) = false := by simp [hs]
      rw [d]
      by_cases h1 : 0 < mulHi a b ∨ 9223372036854775808 < mulLo a b
      · rw [if_pos h1]
        rw [if_neg (by intro k; have := inI64_of k; omega)] at hr
        exact Option.some.inj hr
      · rw [if_neg h1, if_neg (by simp)]
        by_cases h2 : mulLo a b = 9223372036854775808
        · rw [if_pos h2]
          rw [if_neg (by intro k; have := inI64_of k; omega)] at hr
          exact Option.some.inj hr
        · rw [if_neg h2]
          have h3 : a * b = mulLo a b := by omega
          rw [h3, if_pos (by simp [inI64]; omega)] at hr
          rw [← Option.some.inj hr]
          congr 1
          unfold wrap64; omega
    · have e := mul_other a b hs
      have d : (decide (a < 0) != decide (b < 0)) = true := by
        by_cases k1 : a < 0 <;> by_cases k2 : b < 0 <;> simp [k1, k2] at hs ⊢
      rw [d]
      by_cases h1 : 0 < mulHi a b ∨ 9223372036854775808 < mulLo a b
      · rw [if_pos h1]
        rw [if_neg (by intro k; have := inI64_of k; omega)] at hr
        exact Option.some.inj hr
      · rw [if_neg h1, if_pos rfl]
        have h3 : a * b = -(mulLo a b) := by omega
        rw [h3, if_pos (by simp [inI64]; omega)] at hr
        rw [← Option.some.inj hr]
        congr 1
        simp only [IntKind.wrap_u64]; unfold wrap64; omega
  have hn := mulHi_range a b
  have hl := mulLo_range a b
  clear hr ha hb a2 b2
  have hl1 := Lib.hid hl
  clear hl
  generalize mulHi a b = hi at *
  generalize mulLo a b = lo at *
  have CA := Lib.hid ca
  have CB := Lib.hid cb
  have CM := Lib.hid cm
  clear ca cb cm
  generalize hA : decide (a < 0) = da at fin
  generalize hB : decide (b < 0) = db at fin
  by_cases h1 : 0 < hi
  · rw [if_pos (.inl h1)] at fin
    obtain ⟨rfl, rfl⟩ := Prod.mk.inj fin
    have k1 : decide (0 < hi) = true := decide_eq_true h1
    clear h1 fin hn
    go_enter Try.func23, Try.ntmps23
    go_wp2_with fail
    refine CA.out.mono ?_
    rintro e w' ⟨rfl, rfl⟩
    go_wp2_with fail
    refine CB.out.mono ?_
    rintro e w' ⟨rfl, rfl⟩
    go_wp2_with fail
    refine CM.out.mono ?_
    rintro e w' ⟨rfl, rfl⟩
    cases da <;> cases db
    all_goals
      go_wp2_with fail
      go_ret2
      exact ⟨rfl, rfl⟩
  · have k1 : decide (0 < hi) = false := decide_eq_false h1
    by_cases h2 : 9223372036854775808 < lo
    · rw [if_pos (.inr h2)] at fin
      obtain ⟨rfl, rfl⟩ := Prod.mk.inj fin
      have k2 : decide (9223372036854775808 < lo) = true := decide_eq_true h2
      clear h1 fin hn h2
      go_enter Try.func23, Try.ntmps23
      go_wp2_with fail
      refine CA.out.mono ?_
      rintro e w' ⟨rfl, rfl⟩
      go_wp2_with fail
      refine CB.out.mono ?_
      rintro e w' ⟨rfl, rfl⟩
      go_wp2_with fail
      refine CM.out.mono ?_
      rintro e w' ⟨rfl, rfl⟩
      cases da <;> cases db
      all_goals
        go_wp2_with fail
        go_ret2
        exact ⟨rfl, rfl⟩
    · rw [if_neg (by omega)] at fin
      have k2 : decide (9223372036854775808 < lo) = false := decide_eq_false h2
      clear h1 hn h2
      by_cases h3 : (da != db) = true
      · rw [if_pos h3] at fin
        obtain ⟨e1, rfl⟩ := Prod.mk.inj fin
        have E1 := Lib.hid e1
        clear e1 fin
        go_enter Try.func23, Try.ntmps23
        go_wp2_with fail
        refine CA.out.mono ?_
        rintro e w' ⟨rfl, rfl⟩
        go_wp2_with fail
        refine CB.out.mono ?_
        rintro e w' ⟨rfl, rfl⟩
        go_wp2_with fail
        refine CM.out.mono ?_
        rintro e w' ⟨rfl, rfl⟩
        cases da <;> cases db <;> simp at h3
        all_goals
          go_wp2_with fail
          go_ret2
          exact ⟨by rw [← E1.out]; rfl, rfl⟩
      · rw [if_neg h3] at fin
        by_cases h4 : lo = 9223372036854775808
        · rw [if_pos h4] at fin
          obtain ⟨rfl, rfl⟩ := Prod.mk.inj fin
          have k4 : (lo == 9223372036854775808) = true := beq_iff_eq.2 h4
          clear h4 fin
          go_enter Try.func23, Try.ntmps23
          go_wp2_with fail
          refine CA.out.mono ?_
          rintro e w' ⟨rfl, rfl⟩
          go_wp2_with fail
          refine CB.out.mono ?_
          rintro e w' ⟨rfl, rfl⟩
          go_wp2_with fail
          refine CM.out.mono ?_
          rintro e w' ⟨rfl, rfl⟩
          cases da <;> cases db <;> simp at h3
          all_goals
            go_wp2_with fail
            go_ret2
            exact ⟨rfl, rfl⟩
        · rw [if_neg h4] at fin
          obtain ⟨e1, rfl⟩ := Prod.mk.inj fin
          have E1 := Lib.hid e1
          have k4 : (lo == 9223372036854775808) = false := beq_eq_false_iff_ne.2 h4
          clear e1 fin h4
          go_enter Try.func23, Try.ntmps23
          go_wp2_with fail
          refine CA.out.mono ?_
          rintro e w' ⟨rfl, rfl⟩
          go_wp2_with fail
          refine CB.out.mono ?_
          rintro e w' ⟨rfl, rfl⟩
          go_wp2_with fail
          refine CM.out.mono ?_
          rintro e w' ⟨rfl, rfl⟩
          cases da <;> cases db <;> simp at h3
          all_goals
            go_wp2_with fail
            go_ret2
            exact ⟨by rw [← E1.out]; rfl, rfl⟩

theorem num_Mul.calls (a0 : Int) (a1 : Int) (r1 : Int) (r2 : Int) (w : World) (h : num_Mul.f a0 a1 = some (r1, r2)) :
    Calls Try.prog 23 #[.int .i64 a0, .int .i64 a1] w fun e w' => e = .returned (.tuple #[.int .i64 r1, .int .i64 r2]) ∧ Go.Proofs.YtjgapipknabgiaaW.PrintWords.Drawn0 w w' := by
  have ha : inI64 a0 = true := by
    cases k : inI64 a0 with
    | true => rfl
    | false => simp [num_Mul.f, k] at h
  have hb : inI64 a1 = true := by
    cases k : inI64 a1 with
    | true => rfl
    | false => simp [num_Mul.f, k] at h
  refine (mul_walk a0 a1 w ha hb r1 r2 h).mono ?_
  rintro e w' ⟨he, rfl⟩
  exact ⟨he, .refl _⟩
end Go.Proofs.Ytjgapipknabgiaa
