/- What the reference's Right and Compare of one value come to, proved by hand; no condition. -/
import Derived.Test.YtknkaaleafiifaaDoorProg
import Derived.WalkKit
import Derived.Handy
import Derived.WalkLawsBesides
import Derived.WalkSpells
import Derived.Lib.Hide
namespace Go.Proofs.YtknkaaleafiifaaDoor
open Go.RowKit

/-- Is a value right? -/
def rightV (k n : Int) (s : ByteArray) : Bool :=
  if k = 4 then decide (n = 0) && decide ((s.size : Int) ≤ 200)
  else if s.toList = [] then (if k = 0 then decide (n = 0) else if k = 1 then decide (n = 0) || decide (n = 1) else if k = 2 then decide (-2147483648 ≤ n) && decide (n ≤ 2147483647) else decide (k = 3))
  else false
def instarref03_Right.f (a0_0 a0_1 : Int) (a0_2 : ByteArray) : Option Bool := some (rightV a0_0 a0_1 a0_2)

theorem ret_bool {a b : Bool} (h : a = b) : Ending.returned (.bool a) = .returned (.bool b) := by rw [h]

set_option maxRecDepth 100000 in
set_option maxHeartbeats 4000000 in
theorem instarref03_Right.calls (a0_0 a0_1 : Int) (a0_2 : ByteArray) (r : Bool) (w : World) (h : instarref03_Right.f a0_0 a0_1 a0_2 = some r) :
    Calls Tryd.prog 11 #[.agg #[.int .i64 a0_0, .int .i64 a0_1, .string a0_2]] w fun e w' => e = .returned (.bool r) ∧ Below w.heap.size w w' := by
  have hr : rightV a0_0 a0_1 a0_2 = r := Option.some.inj h
  clear h
  by_cases k4 : a0_0 = 4
  · subst k4
    have HR := Lib.hid hr
    clear hr
    by_cases n0 : a0_1 = 0
    · subst n0
      go_enter Tryd.func11, Tryd.ntmps11
      go_wp2
      all_goals
        go_ret
        exact ⟨ret_bool (by rw [← HR.out]; simp [rightV]), by go_grown⟩
    · have n1 : (a0_1 == 0) = false := by simpa using n0
      go_enter Tryd.func11, Tryd.ntmps11
      go_wp2
      all_goals
        go_ret
        exact ⟨ret_bool (by rw [← HR.out]; simp [rightV, n0]), by go_grown⟩
  · have k4b : (a0_0 == 4) = false := by simpa using k4
    have k4c : (a0_0 != 4) = true := by simpa using k4
    by_cases hs : a0_2.toList = []
    · have hs1 : a0_2.toList.isEmpty = true := by simp [hs]
      by_cases k0 : a0_0 = 0
      · subst k0
        have e : decide (a0_1 = 0) = r := by simpa [rightV, hs] using hr
        have HR := Lib.hid e
        clear hr e k4 k4b k4c
        go_enter Tryd.func11, Tryd.ntmps11
        go_wp2
        all_goals
          go_ret
          exact ⟨ret_bool (by rw [← HR.out]; first | rfl | simp), by go_grown⟩
      by_cases k1 : a0_0 = 1
      · subst k1
        have e : (decide (a0_1 = 0) || decide (a0_1 = 1)) = r := by simpa [rightV, hs] using hr
        have HR := Lib.hid e
        clear hr e k4 k4b k4c k0
        by_cases n0 : a0_1 = 0
        · subst n0
          go_enter Tryd.func11, Tryd.ntmps11
          go_wp2
          all_goals
            go_ret
            exact ⟨ret_bool (by rw [← HR.out]; simp), by go_grown⟩
        · have n1 : (a0_1 == 0) = false := by simpa using n0
          go_enter Tryd.func11, Tryd.ntmps11
          go_wp2
          all_goals
            go_ret
            exact ⟨ret_bool (by rw [← HR.out]; simp only [n0, decide_false, Bool.false_or]; exact Bool.eq_iff_iff.2 (by simp)), by go_grown⟩
      by_cases k2 : a0_0 = 2
      · subst k2
        have e : (decide (-2147483648 ≤ a0_1) && decide (a0_1 ≤ 2147483647)) = r := by simpa [rightV, hs] using hr
        have HR := Lib.hid e
        clear hr e k4 k4b k4c k0 k1
        by_cases n0 : -2147483648 ≤ a0_1
        · go_enter Tryd.func11, Tryd.ntmps11
          go_wp2
          all_goals
            go_ret
            exact ⟨ret_bool (by rw [← HR.out]; simp [n0]), by go_grown⟩
        · have n1 : decide (-2147483648 ≤ a0_1) = false := decide_eq_false n0
          go_enter Tryd.func11, Tryd.ntmps11
          go_wp2
          all_goals
            go_ret
            exact ⟨ret_bool (by rw [← HR.out, n1]; rfl), by go_grown⟩
      by_cases k3 : a0_0 = 3
      · subst k3
        have e : true = r := by simpa [rightV, hs] using hr
        have HR := Lib.hid e
        clear hr e k4 k4b k4c k0 k1 k2
        go_enter Tryd.func11, Tryd.ntmps11
        go_wp2
        all_goals
          go_ret
          exact ⟨ret_bool (by rw [← HR.out]), by go_grown⟩
      have e : false = r := by simpa [rightV, hs, k0, k1, k2, k3, k4] using hr
      have HR := Lib.hid e
      have b0 : (a0_0 == 0) = false := by simpa using k0
      have b1 : (a0_0 == 1) = false := by simpa using k1
      have b2 : (a0_0 == 2) = false := by simpa using k2
      have b3 : (a0_0 == 3) = false := by simpa using k3
      clear hr e k4 k0 k1 k2 k3
      go_enter Tryd.func11, Tryd.ntmps11
      go_wp2
      all_goals
        go_ret
        exact ⟨ret_bool (by rw [← HR.out]), by go_grown⟩
    · have hs1 : a0_2.toList.isEmpty = false := by simp [hs]
      have e : false = r := by simpa [rightV, hs, k4] using hr
      have HR := Lib.hid e
      clear hr e k4
      go_enter Tryd.func11, Tryd.ntmps11
      go_wp2
      all_goals
        go_ret
        exact ⟨ret_bool (by rw [← HR.out]), by go_grown⟩

/-- The order of two values: by kind, number, text. -/
def cmpV (k n : Int) (s : ByteArray) (k' n' : Int) (s' : ByteArray) : Int :=
  if k = k' ∧ n = n' ∧ s.toList = s'.toList then 0
  else if k < k' then -1 else if k ≠ k' then 1 else if n < n' then -1 else if n ≠ n' then 1 else if Op.bytesLess s.toList s'.toList = true then -1 else 1
def instarref03_Compare.f (a0_0 a0_1 : Int) (a0_2 : ByteArray) (a1_0 a1_1 : Int) (a1_2 : ByteArray) : Option Int := some (cmpV a0_0 a0_1 a0_2 a1_0 a1_1 a1_2)
theorem ret_i {a b : Int} (h : a = b) : Ending.returned (.int .i64 a) = .returned (.int .i64 b) := by rw [h]

set_option maxRecDepth 100000 in
set_option maxHeartbeats 4000000 in
theorem instarref03_Compare.calls (a0_0 a0_1 : Int) (a0_2 : ByteArray) (a1_0 a1_1 : Int) (a1_2 : ByteArray) (r : Int) (w : World) (h : instarref03_Compare.f a0_0 a0_1 a0_2 a1_0 a1_1 a1_2 = some r) :
    Calls Tryd.prog 21 #[.agg #[.int .i64 a0_0, .int .i64 a0_1, .string a0_2], .agg #[.int .i64 a1_0, .int .i64 a1_1, .string a1_2]] w fun e w' => e = .returned (.int .i64 r) ∧ Below w.heap.size w w' := by
  have hr : cmpV a0_0 a0_1 a0_2 a1_0 a1_1 a1_2 = r := Option.some.inj h
  clear h
  by_cases hk : a0_0 = a1_0
  · subst hk
    by_cases hn : a0_1 = a1_1
    · subst hn
      by_cases hs : a0_2.toList = a1_2.toList
      · have e : 0 = r := by simpa [cmpV, hs] using hr
        have HR := Lib.hid e
        have s1 : (a0_2.toList == a1_2.toList) = true := beq_iff_eq.2 hs
        clear hr e hs
        go_enter Tryd.func21, Tryd.ntmps21
        go_wp2_with fail
        all_goals
          go_ret
          exact ⟨ret_i (by rw [← HR.out]), by go_grown⟩
      · have s1 : (a0_2.toList == a1_2.toList) = false := beq_eq_false_iff_ne.2 hs
        by_cases hl : Op.bytesLess a0_2.toList a1_2.toList = true
        · have e : -1 = r := by simpa [cmpV, hs, hl] using hr
          have HR := Lib.hid e
          clear hr e hs
          go_enter Tryd.func21, Tryd.ntmps21
          go_wp2_with fail
          all_goals
            go_ret
            exact ⟨ret_i (by rw [← HR.out]), by go_grown⟩
        · have hl1 : Op.bytesLess a0_2.toList a1_2.toList = false := by simpa using hl
          have e : 1 = r := by simpa [cmpV, hs, hl1] using hr
          have HR := Lib.hid e
          clear hr e hs hl
          go_enter Tryd.func21, Tryd.ntmps21
          go_wp2_with fail
          all_goals
            go_ret
            exact ⟨ret_i (by rw [← HR.out]), by go_grown⟩
    · have n1 : (a0_1 == a1_1) = false := beq_eq_false_iff_ne.2 hn
      by_cases hl : a0_1 < a1_1
      · have e : -1 = r := by simpa [cmpV, hn, hl] using hr
        have HR := Lib.hid e
        have l1 : decide (a0_1 < a1_1) = true := decide_eq_true hl
        clear hr e hn hl
        go_enter Tryd.func21, Tryd.ntmps21
        go_wp2_with fail
        all_goals
          go_ret
          exact ⟨ret_i (by rw [← HR.out]), by go_grown⟩
      · have e : 1 = r := by simpa [cmpV, hn, hl] using hr
        have HR := Lib.hid e
        have l1 : decide (a0_1 < a1_1) = false := decide_eq_false hl
        clear hr e hn hl
        go_enter Tryd.func21, Tryd.ntmps21
        go_wp2_with fail
        all_goals
          go_ret
          exact ⟨ret_i (by rw [← HR.out]), by go_grown⟩
  · have k1 : (a0_0 == a1_0) = false := beq_eq_false_iff_ne.2 hk
    by_cases hl : a0_0 < a1_0
    · have e : -1 = r := by simpa [cmpV, hk, hl] using hr
      have HR := Lib.hid e
      have l1 : decide (a0_0 < a1_0) = true := decide_eq_true hl
      clear hr e hk hl
      go_enter Tryd.func21, Tryd.ntmps21
      go_wp2_with fail
      all_goals
        go_ret
        exact ⟨ret_i (by rw [← HR.out]), by go_grown⟩
    · have e : 1 = r := by simpa [cmpV, hk, hl] using hr
      have HR := Lib.hid e
      have l1 : decide (a0_0 < a1_0) = false := decide_eq_false hl
      clear hr e hk hl
      go_enter Tryd.func21, Tryd.ntmps21
      go_wp2_with fail
      all_goals
        go_ret
        exact ⟨ret_i (by rw [← HR.out]), by go_grown⟩
end Go.Proofs.YtknkaaleafiifaaDoor
