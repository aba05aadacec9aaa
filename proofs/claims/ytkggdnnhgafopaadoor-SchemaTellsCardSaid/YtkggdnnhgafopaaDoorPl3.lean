/- Plain laws of SchemaTells: the document's Right, Alike, Kinds and Show are the program's; no program in sight. -/
import Derived.Test.YtkggdnnhgafopaaDoorSch10
set_option linter.unusedVariables false
namespace Go.Proofs.YtkggdnnhgafopaaDoor
open Go.RowKit Go.Lib Go.Shelf Go.Proofs.YtkggdnnhgafopaaDoorW.PrintWords Go.Proofs.YtkggdnnhgafopaaDoor.Kp Go.Proofs.YtkggdnnhgafopaaDoor.Gp Go.Proofs.YtkggdnnhgafopaaDoor.Jp Go.Proofs.YtkggdnnhgafopaaDoor.Lp
/-! ### Right -/
def restB (l : List S25) (i : Nat) : Bool := (List.range' i (l.length - i)).all (okAt l) && (decide (1 ≤ l.length) && decide (l.length ≤ 12))
theorem rest_end (l : List S25) (i : Nat) (h : l.length ≤ i) : restB l i = (decide (1 ≤ l.length) && decide (l.length ≤ 12)) := by
  unfold restB
  rw [Nat.sub_eq_zero_of_le h]
  rfl
theorem rest_step (l : List S25) (i : Nat) (h : i < l.length) : restB l i = (okAt l i && restB l (i + 1)) := by
  unfold restB
  rw [show l.length - i = (l.length - (i + 1)) + 1 by omega, List.range'_succ, List.all_cons, Bool.and_assoc]
theorem right_rest (l : List S25) : rightB l = restB l 0 := by
  unfold rightB restB
  rw [Nat.sub_zero, ← List.range_eq_range']
  cases decide (1 ≤ l.length) <;> cases decide (l.length ≤ 12) <;> simp
theorem refright_in (l : List S25) (i : Nat) (hi : i < l.length) (hl : l.length ≤ 1000) (F : Nat) (hF : ∀ K, F ≤ K → instarref12_Right.l0 K l ((i + 1 : Nat) : Int) = some (restB l (i + 1))) :
    ∀ (m j K : Nat), j + m = i → F + m + 1 ≤ K → instarref12_Right.l1 K l (i : Int) (j : Int) = some (!(((l.take i).drop j).any (sameAs l[i]!)) && restB l (i + 1)) := by
  intro m
  induction m with
  | zero =>
    intro j K hj hK
    obtain ⟨k, rfl⟩ : ∃ k, K = k + 1 := ⟨K - 1, by omega⟩
    rw [instarref12_Right.l1, if_neg (by omega), wrapN i (by omega), hF k (by omega), List.drop_eq_nil_of_le (by simp; omega)]
    rfl
  | succ m ih =>
    intro j K hj hK
    obtain ⟨k, rfl⟩ : ∃ k, K = k + 1 := ⟨K - 1, by omega⟩
    have hd : (l.take i).drop j = l[j] :: (l.take i).drop (j + 1) := by
      rw [List.drop_eq_getElem_cons (by simp; omega)]
      simp
    rw [instarref12_Right.l1, if_pos (by omega), if_pos (by omega), if_pos (by omega), if_pos (by omega), if_pos (by omega), rd_at l j (by omega), rd_at l i hi, hd, List.any_cons, getElem!_pos l i hi]
    by_cases h1 : l[j].f0 = l[i].f0
    · rw [if_pos h1]
      have : sameAs l[i] l[j] = true := by simp [sameAs, h1]
      rw [this]
      rfl
    · rw [if_neg h1]
      by_cases h2 : l[j].f1.toList = l[i].f1.toList
      · rw [if_pos h2]
        have : sameAs l[i] l[j] = true := by simp [sameAs, h2]
        rw [this]
        rfl
      · rw [if_neg h2, wrapN j (by omega), ih (j + 1) k (by omega) (by omega), getElem!_pos l i hi]
        have : sameAs l[i] l[j] = false := by simp [sameAs, h1, h2]
        rw [this, Bool.false_or]
theorem refright_l (l : List S25) (hl : l.length ≤ 1000) (hz : ∀ x ∈ l, x.f1.size ≤ 1000000) : ∀ (m i K : Nat), i + m = l.length → 3000012 + m * (l.length + 3) ≤ K → instarref12_Right.l0 K l (i : Int) = some (restB l i) := by
  intro m
  induction m with
  | zero =>
    intro i K hi hK
    obtain ⟨k, rfl⟩ : ∃ k, K = k + 1 := ⟨K - 1, by omega⟩
    rw [instarref12_Right.l0, if_neg (by omega), rest_end l i (by omega)]
    by_cases h : 1 ≤ l.length
    · rw [if_pos (by omega), decide_eq_true h, Bool.true_and]
      congr 1
      exact decide_eq_decide.2 (by omega)
    · rw [if_neg (by omega), decide_eq_false h, Bool.false_and]
  | succ m ih =>
    intro i K hi hK
    have hi2 : i < l.length := by omega
    rw [Nat.add_mul, Nat.one_mul] at hK
    obtain ⟨k, rfl⟩ : ∃ k, K = k + 1 := ⟨K - 1, by omega⟩
    rw [instarref12_Right.l0, if_pos (by omega), if_pos (by omega), rd_at l i hi2, refcolumn_f _ (hz _ (List.getElem_mem hi2)) k (by omega), bnd, rest_step l i hi2]
    have hok : okAt l i = (!((l.take i).any (sameAs l[i]!)) && columnB l[i]!) := rfl
    rw [hok, getElem!_pos l i hi2]
    cases hc : columnB l[i] with
    | false => rw [if_neg (by decide), Bool.and_false, Bool.false_and]
    | true =>
      have hin := refright_in l i hi2 hl (3000012 + m * (l.length + 3)) (fun K hK => ih (i + 1) K (by omega) hK) i 0 k (by omega) (by omega)
      rw [if_pos rfl, Bool.and_true]
      rw [List.drop_zero, getElem!_pos l i hi2] at hin
      exact hin
theorem refright (l : List S25) (hl : l.length ≤ 20) (hz : ∀ x ∈ l, x.f1.size ≤ 100) : instarref12_Right.f 3001012 l = some (rightB l) := by
  rw [right_rest]
  refine refright_l l (by omega) (fun x hx => by have := hz x hx; omega) l.length 0 _ (by omega) ?_
  have : l.length * (l.length + 3) ≤ 20 * 23 := Nat.mul_le_mul hl (by omega)
  omega
/-! ### Alike -/
theorem refalike_l (l m : List S25) (hl : l.length ≤ 1000) (he : l.length = m.length) : ∀ (n i K : Nat), i + n = l.length → n < K → instarref12_Alike.l0 K l m (i : Int) = some ((List.range' i n).all (fun (i : Nat) => like1 (rd_T25 l (i : Int)) (rd_T25 m (i : Int)))) := by
  intro n
  induction n with
  | zero =>
    intro i K hi hK
    obtain ⟨k, rfl⟩ : ∃ k, K = k + 1 := ⟨K - 1, by omega⟩
    rw [instarref12_Alike.l0, if_neg (by omega)]
    rfl
  | succ n ih =>
    intro i K hi hK
    obtain ⟨k, rfl⟩ : ∃ k, K = k + 1 := ⟨K - 1, by omega⟩
    rw [instarref12_Alike.l0, if_pos (by omega), if_pos (by omega), if_pos (by omega), List.range'_succ, List.all_cons]
    by_cases h1 : (rd_T25 l (i : Int)).f1.toList = (rd_T25 m (i : Int)).f1.toList
    · rw [if_pos h1]
      by_cases h2 : (rd_T25 l (i : Int)).f2 = (rd_T25 m (i : Int)).f2
      · rw [if_pos h2, wrapN i (by omega), ih (i + 1) k (by omega) (by omega)]
        have : like1 (rd_T25 l (i : Int)) (rd_T25 m (i : Int)) = true := by simp [like1, h1, h2]
        rw [this, Bool.true_and]
      · rw [if_neg h2]
        have : like1 (rd_T25 l (i : Int)) (rd_T25 m (i : Int)) = false := by simp [like1, h2]
        rw [this, Bool.false_and]
    · rw [if_neg h1]
      have : like1 (rd_T25 l (i : Int)) (rd_T25 m (i : Int)) = false := by simp [like1, h1]
      rw [this, Bool.false_and]
theorem refalike (l m : List S25) (hl : l.length ≤ 1000) (K : Nat) (hK : 1001 ≤ K) : instarref12_Alike.f K l m = some (alikeB l m) := by
  unfold instarref12_Alike.f alikeB
  by_cases he : l.length = m.length
  · rw [if_pos (by omega), decide_eq_true he, Bool.true_and, List.range_eq_range']
    exact refalike_l l m hl he l.length 0 K (by omega) (by omega)
  · rw [if_neg (by omega), decide_eq_false he, Bool.false_and]
/-! ### Kinds -/
theorem kinds_l (l : List S25) (hl : l.length ≤ 1000) : ∀ (m i K : Nat), i + m = l.length → m < K → schema_Schema_Kinds.l0 K ((l.take i).map (·.f2)) l (l.length : Int) (i : Int) = some (l.map (·.f2)) := by
  intro m
  induction m with
  | zero =>
    intro i K hi hK
    obtain ⟨k, rfl⟩ : ∃ k, K = k + 1 := ⟨K - 1, by omega⟩
    rw [schema_Schema_Kinds.l0, if_neg (by omega), List.take_of_length_le (by omega)]
  | succ m ih =>
    intro i K hi hK
    obtain ⟨k, rfl⟩ : ∃ k, K = k + 1 := ⟨K - 1, by omega⟩
    have hi2 : i < l.length := by omega
    rw [schema_Schema_Kinds.l0, if_pos (by omega), if_pos (by omega), if_pos (by omega), if_pos (by simp; omega), rd_at l i hi2, wrapN i (by omega)]
    have e : (l.take i).map (·.f2) ++ [l[i].f2] = (l.take (i + 1)).map (·.f2) := by
      rw [List.take_succ_eq_append_getElem hi2, List.map_append]
      rfl
    rw [e]
    exact ih (i + 1) k (by omega) (by omega)
theorem kinds_f (l : List S25) (hl : l.length ≤ 1000) (K : Nat) (hK : l.length < K) : schema_Schema_Kinds.f K l = some (l.map (·.f2)) := kinds_l l hl l.length 0 K (by omega) hK
theorem refkinds_l (l : List S25) (hl : l.length ≤ 1000) : ∀ (m i K : Nat), i + m = l.length → m < K → instarref12_Kinds.l0 K l ((l.take i).map (·.f2)) (i : Int) = some (l.map (·.f2)) := by
  intro m
  induction m with
  | zero =>
    intro i K hi hK
    obtain ⟨k, rfl⟩ : ∃ k, K = k + 1 := ⟨K - 1, by omega⟩
    rw [instarref12_Kinds.l0, if_neg (by omega), List.take_of_length_le (by omega)]
  | succ m ih =>
    intro i K hi hK
    obtain ⟨k, rfl⟩ : ∃ k, K = k + 1 := ⟨K - 1, by omega⟩
    have hi2 : i < l.length := by omega
    rw [instarref12_Kinds.l0, if_pos (by omega), if_pos (by omega), if_pos (by simp; omega), rd_at l i hi2, wrapN i (by omega)]
    have e : (l.take i).map (·.f2) ++ [l[i].f2] = (l.take (i + 1)).map (·.f2) := by
      rw [List.take_succ_eq_append_getElem hi2, List.map_append]
      rfl
    rw [e]
    exact ih (i + 1) k (by omega) (by omega)
theorem refkinds_f (l : List S25) (hl : l.length ≤ 1000) (K : Nat) (hK : l.length < K) : instarref12_Kinds.f K l = some (l.map (·.f2)) := refkinds_l l hl l.length 0 K (by omega) hK
theorem samekinds_l (l : List Int) (hl : l.length ≤ 1000) : ∀ (m i K : Nat), i + m = l.length → m < K → instarlaw12_kinds.l0 K l l (i : Int) = some true := by
  intro m
  induction m with
  | zero =>
    intro i K hi hK
    obtain ⟨k, rfl⟩ : ∃ k, K = k + 1 := ⟨K - 1, by omega⟩
    rw [instarlaw12_kinds.l0, if_neg (by omega)]
  | succ m ih =>
    intro i K hi hK
    obtain ⟨k, rfl⟩ : ∃ k, K = k + 1 := ⟨K - 1, by omega⟩
    rw [instarlaw12_kinds.l0, if_pos (by omega), if_pos (by omega), if_pos (by omega), wrapN i (by omega), ih (i + 1) k (by omega) (by omega)]
    simp
theorem samekinds_f (l : List Int) (hl : l.length ≤ 1000) (K : Nat) (hK : l.length < K) : instarlaw12_kinds.f K l l = some true := by
  unfold instarlaw12_kinds.f
  rw [if_pos rfl]
  exact samekinds_l l hl l.length 0 K (by omega) hK
/-! ### Show -/
theorem join_snoc (xs : List (List UInt8)) (y sep : List UInt8) (h : xs ≠ []) : Lib.join (xs ++ [y]) sep = Lib.join xs sep ++ (sep ++ y) := by
  cases xs with
  | nil => exact absurd rfl h
  | cons x r =>
    rw [List.cons_append, Lib.join_cons, Lib.join_cons]
    simp [Lib.joinTail]
theorem accS_join (l : List S25) : ∀ i, i < l.length → (accS l (i + 1)).data.toList = Lib.join (((l.take (i + 1)).map showOne).map (·.data.toList)) commaB.data.toList := by
  intro i
  induction i with
  | zero =>
    intro hi
    have e : (l.take (0 + 1)) = [l[0]] := by rw [List.take_succ_eq_append_getElem hi]; rfl
    rw [e, List.map_cons, List.map_nil, List.map_cons, List.map_nil, Lib.join_one, accS, if_neg (by decide), rd_at l 0 hi, accS]
    simp [showOne]
  | succ i ih =>
    intro hi
    have e : l.take (i + 1 + 1) = l.take (i + 1) ++ [l[i + 1]] := List.take_succ_eq_append_getElem hi
    rw [e, List.map_append, List.map_append, List.map_cons, List.map_nil, List.map_cons, List.map_nil, join_snoc _ _ _ (by intro h; have h2 := congrArg List.length h; rw [List.length_map, List.length_map, List.length_take, List.length_nil] at h2; omega), ← ih (by omega), accS, if_pos (by omega), rd_at l (i + 1) hi]
    simp [showOne, commaB]
theorem accS_show (l : List S25) : accS l l.length = showB l := by
  apply bytes_ext
  unfold showB joinB
  cases hl : l.length with
  | zero =>
    have : l = [] := List.eq_nil_of_length_eq_zero hl
    subst this
    rfl
  | succ n =>
    rw [accS_join l n (by omega), List.take_of_length_le (by omega)]
end Go.Proofs.YtkggdnnhgafopaaDoor
