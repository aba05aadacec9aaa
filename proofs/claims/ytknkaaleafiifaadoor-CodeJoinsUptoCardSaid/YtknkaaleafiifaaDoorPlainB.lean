/- Plain laws of the code: what comes first of a right value's bytes is that value, and what comes first of any bytes has them; no program in sight. -/
import Derived.Test.YtknkaaleafiifaaDoorPlainA
set_option linter.unusedVariables false
set_option linter.unusedSimpArgs false
namespace Go.Proofs.YtknkaaleafiifaaDoor
open Go.RowKit Go.Proofs.YtknkaaleafiifaaDoorW.PrintWords Go.Proofs.YtknkaaleafiifaaDoor.Kp Go.Proofs.YtknkaaleafiifaaDoor.Hp

/-- What a right value is. -/
def RightC (k n : Int) (t : List UInt8) : Prop :=
  (k = 4 ∧ n = 0 ∧ t.length ≤ 200) ∨ (t = [] ∧ ((k = 0 ∧ n = 0) ∨ (k = 1 ∧ (n = 0 ∨ n = 1)) ∨ (k = 2 ∧ -2147483648 ≤ n ∧ n ≤ 2147483647) ∨ k = 3))
theorem right_iff (x : S32) : rightX x = true ↔ RightC x.f0 x.f1 x.f2.data.toList := by
  unfold rightX rightV RightC
  rw [ByteArray.toList_eq]
  by_cases h4 : x.f0 = 4
  · rw [if_pos h4]
    simp only [Bool.and_eq_true, decide_eq_true_eq, size_toList]
    constructor
    · rintro ⟨a, b⟩; exact .inl ⟨h4, a, by omega⟩
    · rintro (⟨_, a, b⟩ | ⟨e, h | h | h | h⟩)
      · exact ⟨a, by omega⟩
      all_goals (exfalso; omega)
  · rw [if_neg h4]
    by_cases ht : x.f2.data.toList = []
    · rw [if_pos ht]
      simp only [ht, true_and]
      repeat' split
      all_goals simp_all
      all_goals omega
    · rw [if_neg ht]
      simp only [ht, false_and, or_false]
      simp [h4]
theorem textL_esc (t r : List UInt8) : textL (esc t ++ [0, 0] ++ r) = some (t, (esc t).length + 2) := by
  induction t with
  | nil => simp [esc, textL]
  | cons c t ih =>
    by_cases h : c = 0
    · subst h
      simp only [esc, if_true, List.cons_append, textL]
      rw [if_neg (by decide), ih]
      simp
    · simp only [esc, if_neg h, List.cons_append]
      rw [textL_other _ _ h, ih]
      simp
theorem textL_back : ∀ (m : Nat) (l t : List UInt8) (n : Nat), l.length ≤ m → textL l = some (t, n) → ∃ r, l = esc t ++ [0, 0] ++ r ∧ n = (esc t).length + 2 := by
  intro m
  induction m with
  | zero => intro l t n hl h; cases l with | nil => simp [textL] at h | cons => simp at hl
  | succ m ih =>
    intro l t n hl h
    match l, hl, h with
    | [], _, h => simp [textL] at h
    | [_], _, h => simp [textL] at h
    | c :: d :: l, hl, h =>
      simp only [textL] at h
      by_cases hc : c = 0
      · subst hc
        rw [if_pos rfl] at h
        by_cases hd : d = 0
        · subst hd
          rw [if_pos rfl] at h
          cases h
          exact ⟨l, rfl, rfl⟩
        · rw [if_neg hd] at h
          by_cases h5 : d = 255
          · subst h5
            rw [if_pos rfl] at h
            obtain ⟨⟨t', n'⟩, h1, h2⟩ := Option.map_eq_some_iff.1 h
            cases h2
            obtain ⟨r, e1, e2⟩ := ih l t' n' (by simp at hl; omega) h1
            exact ⟨r, by rw [e1]; simp [esc], by simp [esc, e2]⟩
          · rw [if_neg h5] at h; cases h
      · rw [if_neg hc] at h
        obtain ⟨⟨t', n'⟩, h1, h2⟩ := Option.map_eq_some_iff.1 h
        cases h2
        obtain ⟨r, e1, e2⟩ := ih (d :: l) t' n' (by simp at hl ⊢; omega) h1
        exact ⟨r, by rw [e1]; simp [esc, hc], by simp [esc, hc, e2]⟩
theorem numL_bytesU (l : List Int) (h : ∀ b ∈ l, 0 ≤ b ∧ b ≤ 255) : numL (bytesU l) = NumPl.val l 0 := by
  unfold numL bytesU
  have e : (l.map fun n => UInt8.ofNat n.toNat).map (fun c => (c.toNat : Int)) = l := by
    rw [List.map_map]
    have : ∀ b ∈ l, ((fun c : UInt8 => (c.toNat : Int)) ∘ fun n : Int => UInt8.ofNat n.toNat) b = b := by
      intro b hb
      have := h b hb
      simp
      omega
    rw [List.map_congr_left this, List.map_id']
  rw [e]
theorem put4_val (n : Int) (h0 : 0 ≤ n) (h1 : n ≤ 4294967295) : NumPl.val ((putBytes n).drop 4) 0 = n := by
  simp only [putBytes, List.drop, NumPl.val]
  omega
theorem put_mem (n : Int) (h0 : 0 ≤ n) (h1 : n ≤ 18446744073709551615) : ∀ b ∈ putBytes n, 0 ≤ b ∧ b ≤ 255 := NumFn.put_bytes n ⟨h0, h1⟩
theorem bytesU_length (l : List Int) : (bytesU l).length = l.length := by simp [bytesU]
/-- What comes first of a right value's bytes is that value. -/
theorem first_one (k n : Int) (t r : List UInt8) (hr : RightC k n t) (hn : -9223372036854775808 ≤ n ∧ n ≤ 9223372036854775807) :
    firstL (oneL k n t ++ r) = some (k, n, t, (oneL k n t).length) := by
  rcases hr with ⟨rfl, rfl, h⟩ | ⟨rfl, ⟨rfl, rfl⟩ | ⟨rfl, rfl | rfl⟩ | ⟨rfl, h1, h2⟩ | rfl⟩
  · have e : oneL 4 0 t = 4 :: (esc t ++ [0, 0]) := rfl
    rw [e]
    simp only [List.cons_append, firstL]
    rw [if_neg (by decide), if_neg (by decide), if_neg (by decide), if_neg (by decide), if_pos True.intro, textL_esc]
    simp [h]
  · rfl
  · rfl
  · rfl
  · have e : oneL 2 n [] = 2 :: bytesU ((putBytes (n + 2147483648)).drop 4) := rfl
    rw [e]
    simp only [List.cons_append, firstL]
    have hl : (bytesU ((putBytes (n + 2147483648)).drop 4)).length = 4 := rfl
    rw [if_neg (by decide), if_neg (by decide), if_pos True.intro, if_pos (by rw [List.length_append, hl]; omega), List.take_append_of_le_length (by rw [hl]; omega),
      List.take_of_length_le (by rw [hl]; omega), numL_bytesU _ (fun b hb => put_mem _ (by omega) (by omega) b (List.mem_of_mem_drop hb)), put4_val _ (by omega) (by omega)]
    simp only [List.length_cons, hl]
    congr 2
    simp
  · have e : oneL 3 n [] = 3 :: bytesU (putBytes (n + 9223372036854775808)) := rfl
    rw [e]
    simp only [List.cons_append, firstL]
    have hl : (bytesU (putBytes (n + 9223372036854775808))).length = 8 := rfl
    rw [if_neg (by decide), if_neg (by decide), if_neg (by decide), if_pos True.intro, if_pos (by rw [List.length_append, hl]; omega), List.take_append_of_le_length (by rw [hl]; omega),
      List.take_of_length_le (by rw [hl]; omega), numL_bytesU _ (fun b hb => put_mem _ (by omega) (by omega) b hb), NumFn.put_val]
    simp only [List.length_cons, hl]
    congr 2
    simp
theorem put_eight (l : List UInt8) (h : l.length = 8) : bytesU (putBytes (numL l)) = l := by
  obtain ⟨c0, c1, c2, c3, c4, c5, c6, c7, rfl⟩ := eight_of l h
  have h0 := c0.toNat_lt; have h1 := c1.toNat_lt; have h2 := c2.toNat_lt; have h3 := c3.toNat_lt
  have h4 := c4.toNat_lt; have h5 := c5.toNat_lt; have h6 := c6.toNat_lt; have h7 := c7.toNat_lt
  have e : putBytes (numL [c0, c1, c2, c3, c4, c5, c6, c7]) = [(c0.toNat : Int), c1.toNat, c2.toNat, c3.toNat, c4.toNat, c5.toNat, c6.toNat, c7.toNat] := by
    simp only [numL, NumPl.val, List.map_cons, List.map_nil, putBytes, List.cons.injEq, and_true]
    omega
  rw [e]
  simp [bytesU]
theorem put_four (l : List UInt8) (h : l.length = 4) : bytesU ((putBytes (numL l)).drop 4) = l ∧ 0 ≤ numL l ∧ numL l ≤ 4294967295 := by
  obtain ⟨c0, c1, c2, c3, rfl⟩ := four_of l h
  have h0 := c0.toNat_lt; have h1 := c1.toNat_lt; have h2 := c2.toNat_lt; have h3 := c3.toNat_lt
  have e : (putBytes (numL [c0, c1, c2, c3])).drop 4 = [(c0.toNat : Int), c1.toNat, c2.toNat, c3.toNat] := by
    simp only [numL, NumPl.val, List.map_cons, List.map_nil, putBytes, List.drop, List.cons.injEq, and_true]
    omega
  rw [e]
  exact ⟨by simp [bytesU], (numL_four c0 c1 c2 c3).1, (numL_four c0 c1 c2 c3).2.1⟩
theorem numL_eight (l : List UInt8) (h : l.length = 8) : 0 ≤ numL l ∧ numL l ≤ 18446744073709551615 := by
  obtain ⟨c0, c1, c2, c3, c4, c5, c6, c7, rfl⟩ := eight_of l h
  exact numL_range _ _ _ _ _ _ _ _
/-- What comes first of any bytes is right, and has them. -/
theorem first_back (l : List UInt8) (k n : Int) (t : List UInt8) (m : Nat) (h : firstL l = some (k, n, t, m)) :
    RightC k n t ∧ (-9223372036854775808 ≤ n ∧ n ≤ 9223372036854775807) ∧ m = (oneL k n t).length ∧ ∃ r, l = oneL k n t ++ r := by
  cases l with
  | nil => simp [firstL] at h
  | cons c r =>
    simp only [firstL] at h
    by_cases h0 : c = 0
    · subst h0
      rw [if_pos rfl] at h
      cases h
      exact ⟨.inr ⟨rfl, .inl ⟨rfl, rfl⟩⟩, by decide, rfl, r, rfl⟩
    rw [if_neg h0] at h
    by_cases h1 : c = 1
    · subst h1
      rw [if_pos rfl] at h
      cases r with
      | nil => cases h
      | cons d r =>
        simp only at h
        by_cases hd : d = 0 ∨ d = 1
        · rw [if_pos hd] at h
          cases h
          rcases hd with rfl | rfl
          · exact ⟨.inr ⟨rfl, .inr (.inl ⟨rfl, .inl rfl⟩)⟩, by decide, rfl, r, rfl⟩
          · exact ⟨.inr ⟨rfl, .inr (.inl ⟨rfl, .inr rfl⟩)⟩, by decide, rfl, r, rfl⟩
        · rw [if_neg hd] at h; cases h
    rw [if_neg h1] at h
    by_cases h2 : c = 2
    · subst h2
      rw [if_pos rfl] at h
      by_cases hl : 4 ≤ r.length
      · rw [if_pos hl] at h
        cases h
        obtain ⟨e, l0, l1⟩ := put_four (r.take 4) (by rw [List.length_take]; omega)
        refine ⟨.inr ⟨rfl, .inr (.inr (.inl ⟨rfl, by omega, by omega⟩))⟩, by omega, rfl, r.drop 4, ?_⟩
        show 2 :: r = (2 :: bytesU ((putBytes (numL (r.take 4) - 2147483648 + 2147483648)).drop 4)) ++ r.drop 4
        rw [Int.sub_add_cancel, e, List.cons_append, List.take_append_drop]
      · rw [if_neg hl] at h; cases h
    rw [if_neg h2] at h
    by_cases h3 : c = 3
    · subst h3
      rw [if_pos rfl] at h
      by_cases hl : 8 ≤ r.length
      · rw [if_pos hl] at h
        cases h
        have e := put_eight (r.take 8) (by rw [List.length_take]; omega)
        obtain ⟨l0, l1⟩ := numL_eight (r.take 8) (by rw [List.length_take]; omega)
        refine ⟨.inr ⟨rfl, .inr (.inr (.inr rfl))⟩, by omega, rfl, r.drop 8, ?_⟩
        show 3 :: r = (3 :: bytesU (putBytes (numL (r.take 8) - 9223372036854775808 + 9223372036854775808))) ++ r.drop 8
        rw [Int.sub_add_cancel, e, List.cons_append, List.take_append_drop]
      · rw [if_neg hl] at h; cases h
    rw [if_neg h3] at h
    by_cases h4 : c = 4
    · subst h4
      rw [if_pos rfl] at h
      cases ht : textL r with
      | none => rw [ht] at h; cases h
      | some x =>
        obtain ⟨t', n'⟩ := x
        rw [ht] at h
        simp only at h
        by_cases hl : t'.length ≤ 200
        · rw [if_pos hl] at h
          cases h
          obtain ⟨r', e1, e2⟩ := textL_back _ _ _ _ (Nat.le_refl _) ht
          refine ⟨.inl ⟨rfl, rfl, hl⟩, by decide, ?_, r', ?_⟩
          · show n' + 1 = (4 :: (esc t ++ [0, 0])).length
            simp [e2]
          · show 4 :: r = 4 :: (esc t ++ [0, 0]) ++ r'
            rw [e1]; rfl
        · rw [if_neg hl] at h; cases h
    · rw [if_neg h4] at h; cases h
theorem oneL_pos (k n : Int) (t : List UInt8) : 1 ≤ (oneL k n t).length := by
  unfold oneL
  repeat' split
  all_goals simp
end Go.Proofs.YtknkaaleafiifaaDoor
