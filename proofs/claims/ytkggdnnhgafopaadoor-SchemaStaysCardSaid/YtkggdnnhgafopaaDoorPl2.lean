/- Plain laws: a schema's text, the live question's answer, the guards, sameness; no program in sight. -/
import Derived.Test.YtkggdnnhgafopaaDoorPl1
set_option linter.unusedVariables false
namespace Go.Proofs.YtkggdnnhgafopaaDoor
open Go.RowKit Go.Lib Go.Shelf Go.Proofs.YtkggdnnhgafopaaDoorW.PrintWords Go.Proofs.YtkggdnnhgafopaaDoor.Kp Go.Proofs.YtkggdnnhgafopaaDoor.Gp Go.Proofs.YtkggdnnhgafopaaDoor.Jp Go.Proofs.YtkggdnnhgafopaaDoor.Lp
def vname (k : Int) : ByteArray := if k = 0 then ⟨#[110, 117, 108, 108]⟩ else if k = 1 then ⟨#[98, 111, 111, 108]⟩ else if k = 2 then ⟨#[105, 110, 116, 51, 50]⟩ else if k = 3 then ⟨#[105, 110, 116, 54, 52]⟩ else if k = 4 then ⟨#[116, 101, 120, 116]⟩ else ⟨#[]⟩
theorem vname_eq (k : Int) : value_Name.f k = some (vname k) := by
  by_cases h0 : k = 0
  · subst h0; rfl
  by_cases h1 : k = 1
  · subst h1; rfl
  by_cases h2 : k = 2
  · subst h2; rfl
  by_cases h3 : k = 3
  · subst h3; rfl
  by_cases h4 : k = 4
  · subst h4; rfl
  have hk : kindB k = false := by
    unfold kindB
    by_cases h : 1 ≤ k
    · rw [show decide (k ≤ 4) = false from decide_eq_false (by omega), Bool.and_false]
    · rw [decide_eq_false h, Bool.false_and]
  rw [vname_bad k h0 hk]
  unfold vname
  rw [if_neg h0, if_neg h1, if_neg h2, if_neg h3, if_neg h4]
theorem vname_size (k : Int) : (vname k).size ≤ 5 := by
  unfold vname
  repeat' split
  all_goals decide
def showOne (x : S25) : ByteArray := (x.f1 ++ (⟨#[32]⟩ : ByteArray)) ++ vname x.f2
theorem showOne_size (x : S25) : (showOne x).size ≤ x.f1.size + 6 := by
  have := vname_size x.f2
  unfold showOne
  rw [ByteArray.size_append, ByteArray.size_append, show (⟨#[32]⟩ : ByteArray).size = 1 from rfl]
  omega
def commaB : ByteArray := ⟨#[44, 32]⟩
def showB (l : List S25) : ByteArray := joinB (l.map showOne) commaB
theorem lens_le (M : Nat) (l : List ByteArray) (h : ∀ x ∈ l, x.size ≤ M) : Lib.lens (l.map (·.data.toList)) ≤ l.length * M := by
  induction l with
  | nil => simp [Lib.lens]
  | cons x l ih =>
    have h1 := h x (.head _)
    have h2 := ih (fun y hy => h y (.tail _ hy))
    have e : x.data.toList.length = x.size := Array.length_toList
    simp only [List.map_cons, List.length_cons, Lib.lens, List.sum_cons, e] at *
    rw [Nat.add_mul]
    omega
theorem join_small (M : Nat) (l : List ByteArray) (sep : ByteArray) (h : ∀ x ∈ l, x.size ≤ M) : (Lib.join (l.map (·.data.toList)) sep.data.toList).length ≤ l.length * (M + sep.size) := by
  cases l with
  | nil => simp [Lib.join_nil]
  | cons x l =>
    have e : sep.data.toList.length = sep.size := Array.length_toList
    rw [List.map_cons, Lib.join_length, e, ← List.map_cons (f := fun x : ByteArray => x.data.toList), List.length_map]
    have := lens_le M (x :: l) h
    simp only [List.length_cons] at *
    rw [Nat.mul_add, Nat.mul_comm sep.size]
    have : l.length * sep.size ≤ (l.length + 1) * sep.size := Nat.mul_le_mul_right _ (by omega)
    omega
theorem show_l (l : List S25) (hl : l.length ≤ 1000) (hz : ∀ x ∈ l, x.f1.size ≤ 1000) : ∀ (m i K : Nat), i + m = l.length → m < K →
    schema_Show.l0 K ((l.take i).map showOne) l (l.length : Int) (i : Int) = some (showB l) := by
  intro m
  induction m with
  | zero =>
    intro i K hi hK
    obtain ⟨k, rfl⟩ : ∃ k, K = k + 1 := ⟨K - 1, by omega⟩
    rw [schema_Show.l0, if_neg (by omega), List.take_of_length_le (by omega)]
    unfold strings_Join.f
    have hb := join_small 1006 (l.map showOne) commaB (by
      intro x hx
      obtain ⟨y, hy, rfl⟩ := List.mem_map.1 hx
      have := showOne_size y
      have := hz y hy
      omega)
    rw [show commaB.size = 2 from rfl] at hb
    rw [if_pos ⟨by rw [List.length_map]; omega, by rw [List.length_map] at hb; have : l.length * (1006 + 2) ≤ 1000 * (1006 + 2) := Nat.mul_le_mul_right _ hl; exact Nat.le_trans hb (Nat.le_trans this (by decide))⟩, bnd]
    rfl
  | succ m ih =>
    intro i K hi hK
    obtain ⟨k, rfl⟩ : ∃ k, K = k + 1 := ⟨K - 1, by omega⟩
    have hi2 : i < l.length := by omega
    have hm := hz l[i] (List.getElem_mem hi2)
    have hs := showOne_size l[i]
    have hs2 : ((l[i].f1 ++ (⟨#[32]⟩ : ByteArray)).size + (vname l[i].f2).size) = (showOne l[i]).size := (ByteArray.size_append).symm
    rw [schema_Show.l0, if_pos (by omega), if_pos (by omega), if_pos (by omega), rd_at l i hi2, if_pos (by omega), vname_eq, bnd, if_pos (by omega), if_pos (by simp; omega), wrapN i (by omega)]
    have e : (l.take i).map showOne ++ [(l[i].f1 ++ (⟨#[32]⟩ : ByteArray)) ++ vname l[i].f2] = (l.take (i + 1)).map showOne := by
      rw [List.take_succ_eq_append_getElem hi2, List.map_append]
      rfl
    rw [e]
    exact ih (i + 1) k (by omega) (by omega)
theorem show_f (l : List S25) (hl : l.length ≤ 1000) (hz : ∀ x ∈ l, x.f1.size ≤ 1000) (K : Nat) (hK : l.length < K) : schema_Show.f K l = some (showB l) :=
  show_l l hl hz l.length 0 K (by omega) hK
/-! ### the live question -/
def aliveS : List S25 := [⟨3, ⟨#[97]⟩, 2⟩, ⟨1, ⟨#[98]⟩, 4⟩]
theorem find_a : findI aliveS ⟨#[97]⟩ = 0 := by simp [findI, idxCol, Lib.idxBy, Lib.idxByFrom, aliveS, ByteArray.toList_eq]
theorem find_b : findI aliveS ⟨#[98]⟩ = 1 := by simp [findI, idxCol, Lib.idxBy, Lib.idxByFrom, aliveS, ByteArray.toList_eq]
theorem name_b : nameB ⟨#[98]⟩ = true := by unfold nameB ownB; rw [ByteArray.toList_eq]; decide
theorem name_a : nameB ⟨#[97]⟩ = true := by unfold nameB ownB; rw [ByteArray.toList_eq]; decide
theorem name_and : nameB ⟨#[97, 110, 100]⟩ = false := by unfold nameB ownB; rw [ByteArray.toList_eq]; decide
theorem name_b1 : nameB ⟨#[98, 95, 49]⟩ = true := by unfold nameB ownB; rw [ByteArray.toList_eq]; decide
theorem right_alive : rightB aliveS = true := by
  simp [rightB, okAt, aliveS, sameAs, columnB, kindB, name_a, name_b, ByteArray.toList_eq, List.range_succ]
theorem widen_alive : widenB aliveS ⟨#[97]⟩ 3 = ([⟨3, ⟨#[97]⟩, 3⟩, ⟨1, ⟨#[98]⟩, 4⟩], 0) := by
  unfold widenB
  rw [find_a]
  rfl
theorem rename_alive : renameB aliveS ⟨#[97]⟩ ⟨#[98]⟩ = ([], 122) := by
  unfold renameB
  rw [find_a, find_b, name_b]
  rfl
/-! ### the guard, and sameness -/
def smallB (l : List S25) : Bool := decide (l.length ≤ 20) && l.all (fun x => decide (x.f1.size ≤ 100))
theorem small_l (l : List S25) : ∀ (m i K : Nat), i + m = l.length → i ≤ 21 → (21 - i) * 2 + 2 < K →
    instarlaw12_Small.l0 K l (i : Int) = some (decide (l.length ≤ 20) && (l.drop i).all (fun x => decide (x.f1.size ≤ 100))) := by
  intro m
  induction m with
  | zero =>
    intro i K hi h21 hK
    obtain ⟨k, rfl⟩ : ∃ k, K = k + 2 := ⟨K - 2, by omega⟩
    rw [instarlaw12_Small.l0, if_neg (by omega), instarlaw12_Small.j1, if_neg (by decide), List.drop_eq_nil_of_le (by omega), List.all_nil, Bool.and_true]
    congr 1
    exact decide_eq_decide.2 (by omega)
  | succ m ih =>
    intro i K hi h21 hK
    obtain ⟨k, rfl⟩ : ∃ k, K = k + 2 := ⟨K - 2, by omega⟩
    rw [instarlaw12_Small.l0, if_pos (by omega)]
    by_cases h : i = 21
    · subst h
      rw [show decide (((21 : Nat) : Int) ≤ 20) = false from rfl, instarlaw12_Small.j1, if_neg (by decide), show decide (l.length ≤ 20) = false from decide_eq_false (by omega), Bool.false_and]
      congr 1
      exact decide_eq_false (by omega)
    · have hd : l.drop i = l[i] :: l.drop (i + 1) := List.drop_eq_getElem_cons (by omega)
      rw [show decide ((i : Int) ≤ 20) = true from decide_eq_true (by omega), instarlaw12_Small.j1, if_pos rfl, if_pos (by omega), if_pos (by omega), rd_at l i (by omega), hd, List.all_cons]
      by_cases hb : l[i].f1.size ≤ 100
      · rw [if_neg (by omega), wrapN i (by omega), ih (i + 1) k (by omega) (by omega) (by omega), decide_eq_true hb, Bool.true_and]
      · rw [if_pos (by omega), decide_eq_false hb, Bool.false_and, Bool.and_false]
theorem small_f (l : List S25) (K : Nat) (hK : 50 ≤ K) : instarlaw12_Small.f K l = some (smallB l) :=
  small_l l l.length 0 K (by omega) (by omega) (by omega)
theorem same_l (l : List S25) (hl : l.length ≤ 1000000) : ∀ (m i K : Nat), i + m = l.length → m < K → instarref12_Same.l0 K l l (i : Int) = some true := by
  intro m
  induction m with
  | zero =>
    intro i K hi hK
    obtain ⟨k, rfl⟩ : ∃ k, K = k + 1 := ⟨K - 1, by omega⟩
    rw [instarref12_Same.l0, if_neg (by omega)]
  | succ m ih =>
    intro i K hi hK
    obtain ⟨k, rfl⟩ : ∃ k, K = k + 1 := ⟨K - 1, by omega⟩
    rw [instarref12_Same.l0, if_pos (by omega), if_pos (by omega), if_pos (by omega), if_neg (by simp), wrapN i (by omega)]
    exact ih (i + 1) k (by omega) (by omega)
theorem same_f (l : List S25) (hl : l.length ≤ 1000000) (K : Nat) (hK : l.length < K) : instarref12_Same.f K l l = some true := by
  unfold instarref12_Same.f
  rw [if_pos rfl]
  exact same_l l hl l.length 0 K (by omega) hK
end Go.Proofs.YtkggdnnhgafopaaDoor
