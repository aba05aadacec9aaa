/- Plain laws: what the document's Add, Drop, Rename, Widen answer, and that the program's answer so; no program in sight. -/
import Derived.Test.YtkggdnnhgafopaaDoorL1
set_option linter.unusedVariables false
namespace Go.Proofs.YtkggdnnhgafopaaDoor
open Go.RowKit Go.Lib Go.Shelf Go.Proofs.YtkggdnnhgafopaaDoorW.PrintWords Go.Proofs.YtkggdnnhgafopaaDoor.Kp Go.Proofs.YtkggdnnhgafopaaDoor.Gp Go.Proofs.YtkggdnnhgafopaaDoor.Jp Go.Proofs.YtkggdnnhgafopaaDoor.Lp
theorem rd_at (l : List S25) (i : Nat) (h : i < l.length) : rd_T25 l (i : Int) = l[i] := by
  simp [rd_T25, List.getD, List.getElem?_eq_getElem h]
theorem reffind_f (l : List S25) (name : ByteArray) (hl : l.length ≤ 1000000) : ∀ (m i K : Nat), i + m = l.length → m < K →
    instarref12_Find.l0 K l name (i : Int) = some (Lib.idxByFrom (fun _ y => y.f1.toList == name.toList) default (l.drop i) i) := by
  intro m
  induction m with
  | zero =>
    intro i K hi hK
    obtain ⟨k, rfl⟩ : ∃ k, K = k + 1 := ⟨K - 1, by omega⟩
    rw [instarref12_Find.l0, if_neg (by omega), List.drop_eq_nil_of_le (by omega)]
    rfl
  | succ m ih =>
    intro i K hi hK
    obtain ⟨k, rfl⟩ : ∃ k, K = k + 1 := ⟨K - 1, by omega⟩
    have hd : l.drop i = l[i] :: l.drop (i + 1) := List.drop_eq_getElem_cons (by omega)
    rw [instarref12_Find.l0, if_pos (by omega), if_pos (by omega), rd_at l i (by omega), hd, Lib.idxByFrom]
    by_cases h : l[i].f1.toList = name.toList
    · rw [if_pos h, if_pos (beq_iff_eq.2 h)]
    · rw [if_neg h, if_neg (by simp [h]), wrapN i (by omega)]
      exact ih (i + 1) k (by omega) (by omega)
theorem reffind (l : List S25) (name : ByteArray) (hl : l.length ≤ 1000000) (K : Nat) (hK : l.length < K) : instarref12_Find.f K l name = some (findI l name) :=
  reffind_f l name hl l.length 0 K (by omega) hK
theorem findI_ge (l : List S25) (name : ByteArray) : -1 ≤ findI l name := by
  have h : ∀ (l : List S25) (i : Nat), -1 ≤ Lib.idxByFrom (fun _ y : S25 => y.f1.toList == name.toList) default l i := by
    intro l
    induction l with
    | nil => intro i; exact Int.le_refl _
    | cons y l ih => intro i; rw [Lib.idxByFrom]; split
                     · omega
                     · exact ih _
  exact h l 0
/-! ### Add -/
theorem refadd_l (l : List S25) (c : S25) (hl : l.length ≤ 1000000) : ∀ (m i K : Nat) (b : Bool), i + m = l.length → m + l.length + 2 < K →
    instarref12_Add.l0 K l b (i : Int) c.f0 c.f1 c.f2 = some (if (!(b && (l.drop i).all (fun x => x.f0 != c.f0))) = true then ([], 1) else if 0 ≤ findI l c.f1 then ([], 122) else if 12 ≤ l.length then ([], 62) else (l ++ [c], 0)) := by
  intro m
  induction m with
  | zero =>
    intro i K b hi hK
    obtain ⟨k, rfl⟩ : ∃ k, K = k + 1 := ⟨K - 1, by omega⟩
    rw [instarref12_Add.l0, if_neg (by omega), List.drop_eq_nil_of_le (by omega)]
    cases b with
    | false => rfl
    | true =>
      rw [if_pos rfl, reffind l c.f1 hl k (by omega), bnd]
      simp only [List.all_nil, Bool.and_true, Bool.not_true]
      rw [if_neg (show ¬ (false = true) by decide)]
      by_cases h1 : 0 ≤ findI l c.f1
      · rw [if_pos h1, if_pos (by omega)]
      · simp only [if_neg h1, ge_iff_le]
        by_cases h2 : 12 ≤ l.length
        · rw [if_pos h2, if_pos (by omega)]
        · rw [if_neg h2, if_neg (by omega), bnd]
          simp only [List.length_nil, List.nil_append]
          rw [if_pos (by omega), bnd, if_pos (by omega)]
  | succ m ih =>
    intro i K b hi hK
    obtain ⟨k, rfl⟩ : ∃ k, K = k + 1 := ⟨K - 1, by omega⟩
    have hd : l.drop i = l[i] :: l.drop (i + 1) := List.drop_eq_getElem_cons (by omega)
    rw [instarref12_Add.l0, if_pos (by omega), wrapN i (by omega), hd, List.all_cons]
    cases b with
    | false =>
      rw [if_neg (by decide), ih (i + 1) k false (by omega) (by omega)]
      simp only [Bool.false_and]
    | true =>
      rw [if_pos rfl, if_pos (by omega), rd_at l i (by omega), ih (i + 1) k _ (by omega) (by omega)]
      simp only [Bool.true_and]
theorem not_all (l : List S25) (k : Int) : (!(l.all (fun x => x.f0 != k))) = l.any (fun x => x.f0 == k) := by
  induction l with
  | nil => rfl
  | cons x l ih =>
    rw [List.all_cons, List.any_cons, ← ih, Bool.not_and]
    congr 1
    cases h : (x.f0 == k) <;> simp_all [bne]
theorem refadd (l : List S25) (c : S25) (hl : l.length ≤ 1000) (hz : c.f1.size ≤ 1000000) (K : Nat) (hK : 3000010 ≤ K) : instarref12_Add.f K l c.f0 c.f1 c.f2 = some (addB l c) := by
  unfold instarref12_Add.f
  rw [refcolumn_f c hz K hK, bnd, show (0 : Int) = ((0 : Nat) : Int) from rfl, refadd_l l c (by omega) l.length 0 K _ (by omega) (by omega), List.drop_zero]
  unfold addB
  rw [Bool.not_and, not_all]
/-! ### Drop -/
theorem refdrop_l (l : List S25) (d : Nat) (hl : l.length ≤ 1000000) : ∀ (m i K : Nat) (acc : List S25), i + m = l.length → m < K → acc.length ≤ i →
    instarref12_Drop.l0 K l (d : Int) acc (i : Int) = some (acc ++ (if i ≤ d then (l.drop i).eraseIdx (d - i) else l.drop i), 0) := by
  intro m
  induction m with
  | zero =>
    intro i K acc hi hK ha
    obtain ⟨k, rfl⟩ : ∃ k, K = k + 1 := ⟨K - 1, by omega⟩
    rw [instarref12_Drop.l0, if_neg (by omega), List.drop_eq_nil_of_le (by omega)]
    simp
  | succ m ih =>
    intro i K acc hi hK ha
    obtain ⟨k, rfl⟩ : ∃ k, K = k + 1 := ⟨K - 1, by omega⟩
    have hd : l.drop i = l[i] :: l.drop (i + 1) := List.drop_eq_getElem_cons (by omega)
    rw [instarref12_Drop.l0, if_pos (by omega), wrapN i (by omega)]
    by_cases h : i = d
    · subst h
      rw [if_pos rfl, ih (i + 1) k acc (by omega) (by omega) (by omega), if_neg (by omega), if_pos (Nat.le_refl _), hd, Nat.sub_self]
      rfl
    · rw [if_neg (by omega), if_pos (by omega), if_pos (by omega), rd_at l i (by omega), ih (i + 1) k _ (by omega) (by omega) (by simp; omega), hd, List.append_assoc]
      by_cases hlt : i ≤ d
      · rw [if_pos hlt, if_pos (by omega), show d - i = (d - (i + 1)) + 1 by omega]
        rfl
      · rw [if_neg hlt, if_neg (by omega)]
        rfl
theorem refdrop (l : List S25) (name : ByteArray) (hl : l.length ≤ 1000) (K : Nat) (hK : l.length < K) : instarref12_Drop.f K l name = some (dropB l name) := by
  unfold instarref12_Drop.f dropB
  have hlt := findI_lt l name
  have hge := findI_ge l name
  rw [reffind l name (by omega) K hK, bnd]
  by_cases h : 0 ≤ findI l name
  · rw [if_neg (by omega), if_pos h]
    by_cases h1 : l.length = 1
    · rw [if_pos (by omega), if_pos h1]
    · rw [if_neg (by omega), if_neg h1]
      obtain ⟨d, hd⟩ : ∃ d : Nat, findI l name = (d : Int) := ⟨(findI l name).toNat, by omega⟩
      rw [hd, show (0 : Int) = ((0 : Nat) : Int) from rfl, refdrop_l l d (by omega) l.length 0 K [] (by omega) hK (Nat.le_refl _), if_pos (Nat.zero_le _)]
      simp
  · rw [if_pos (by omega), if_neg h]
/-! ### Rename -/
def renameB (l : List S25) (a b : ByteArray) : List S25 × Int :=
  if 0 ≤ findI l a then (if nameB b = true then (if 0 ≤ findI l b then ([], 122) else (l.set (findI l a).toNat ⟨(rd_T25 l (findI l a)).f0, b, (rd_T25 l (findI l a)).f2⟩, 0)) else ([], 1)) else ([], 121)
theorem refrename (l : List S25) (a b : ByteArray) (hl : l.length ≤ 1000) (hz : b.size ≤ 1000000) (K : Nat) (hK : 3000010 ≤ K) : instarref12_Rename.f K l a b = some (renameB l a b) := by
  unfold instarref12_Rename.f renameB
  have hlt := findI_lt l a
  have hge := findI_ge l a
  rw [reffind l a (by omega) K (by omega), bnd]
  by_cases h : 0 ≤ findI l a
  · have hlt' := hlt h
    rw [if_neg (by omega), if_pos h, refname_f b hz K (by omega), bnd]
    cases hn : nameB b with
    | false => rw [if_neg (by decide), if_neg (by decide)]
    | true =>
      rw [if_pos rfl, if_pos rfl, reffind l b (by omega) K (by omega), bnd]
      by_cases hb : 0 ≤ findI l b
      · rw [if_pos (by omega), if_pos hb]
      · rw [if_neg (by omega), if_neg hb, bnd]
        simp only [List.length_nil, List.nil_append]
        rw [if_pos (by omega), bnd, if_pos h, if_pos (by omega)]
  · rw [if_pos (by omega), if_neg h]
theorem rename (l : List S25) (a b : ByteArray) (hl : l.length ≤ 1000) (hz : b.size ≤ 1000000) (K : Nat) (hK : 1000010 ≤ K) : schema_Schema_Rename.f K l a b = some (renameB l a b) := by
  unfold schema_Schema_Rename.f renameB schema_Schema_Find.f
  have hlt := findI_lt l a
  rw [bnd, bnd]
  simp only [decide_eq_true_eq]
  by_cases h : 0 ≤ findI l a
  · have hlt' := hlt h
    have hm : max (findI l a) 0 = findI l a := by omega
    rw [if_pos h, if_pos h, name_f b hz K hK, bnd]
    cases hn : nameB b with
    | false => rw [if_neg (by decide), if_neg (by decide)]
    | true =>
      rw [if_pos rfl, if_pos rfl]
      by_cases hb : 0 ≤ findI l b
      · rw [if_pos hb, if_pos hb]
      · rw [if_neg hb, if_neg hb]
        unfold slices_Clone.f
        rw [if_pos (by omega), bnd, hm, if_pos h, if_pos (by omega)]
  · rw [if_neg h, if_neg h]
/-! ### Widen -/
def widerB (k than : Int) : Bool := if k = than ∨ than = 0 then decide (0 ≤ k) && decide (k ≤ 4) else decide (1 ≤ than) && (decide (than < k) && decide (k ≤ 3))
theorem refwider (k than : Int) : instarref03_Wider.f k than = some (widerB k than) := by
  unfold instarref03_Wider.f widerB
  have a (x : Int) (q : Prop) [Decidable q] : (if x ≥ 0 then some (decide q) else some false) = some (decide (0 ≤ x) && decide q) := by
    by_cases h3 : 0 ≤ x
    · rw [if_pos h3, decide_eq_true h3, Bool.true_and]
    · rw [if_neg h3, decide_eq_false h3, Bool.false_and]
  by_cases h1 : k = than
  · have ho : k = than ∨ than = 0 := Or.inl h1
    rw [if_pos h1, a, if_pos ho]
  · rw [if_neg h1]
    by_cases h2 : than = 0
    · have ho : k = than ∨ than = 0 := Or.inr h2
      rw [if_pos h2, a, if_pos ho]
    · have ho : ¬ (k = than ∨ than = 0) := by omega
      rw [if_neg h2, if_neg ho]
      by_cases h4 : than ≥ 1
      · rw [if_pos h4, show decide (1 ≤ than) = true from decide_eq_true h4, Bool.true_and]
        by_cases h5 : than < k
        · rw [if_pos h5, decide_eq_true h5, Bool.true_and]
        · rw [if_neg h5, decide_eq_false h5, Bool.false_and]
      · rw [if_neg h4, show decide (1 ≤ than) = false from decide_eq_false h4, Bool.false_and]
theorem wider (k than : Int) (K : Nat) (hK : 2 ≤ K) : value_Wider.f K k than = some (widerB k than) := by
  obtain ⟨j, rfl⟩ : ∃ j, K = j + 1 := ⟨K - 1, by omega⟩
  have hc : value_column.f k = some (kindB k) := by
    unfold value_column.f kindB
    by_cases h1 : k > 0
    · rw [if_pos h1, show decide (1 ≤ k) = true from decide_eq_true (by omega), Bool.true_and]
    · rw [if_neg h1, show decide (1 ≤ k) = false from decide_eq_false (by omega), Bool.false_and]
  unfold value_Wider.f widerB
  have zz : ∀ b : Bool, b = true → value_Wider.j0 (j + 1) k than b = some (decide (0 ≤ k) && decide (k ≤ 4)) := by
    intro b hb
    subst hb
    rw [value_Wider.j0, if_pos rfl]
    by_cases h0 : k = 0
    · subst h0; rfl
    · rw [if_neg h0, hc, bnd]
      unfold kindB
      congr 2
      by_cases h1 : 0 ≤ k
      · rw [decide_eq_true h1]; exact decide_eq_true (by omega)
      · rw [decide_eq_false h1]; exact decide_eq_false (by omega)
  by_cases h1 : than = k
  · rw [if_pos h1, if_pos (.inl h1.symm)]
    exact zz _ (beq_iff_eq.2 h1)
  · rw [if_neg h1]
    by_cases h2 : than = 0
    · rw [if_pos (.inr h2)]
      exact zz _ (beq_iff_eq.2 h2)
    · rw [if_neg (by omega), show (than == 0) = false from beq_eq_false_iff_ne.2 h2, value_Wider.j0, if_neg (by decide)]
      by_cases h3 : than = 1
      · rw [if_pos h3]
        subst h3
        by_cases h4 : k = 2
        · subst h4; rfl
        · rw [if_neg h4]
          congr 1
          by_cases h5 : k = 3
          · subst h5; rfl
          · rw [beq_eq_false_iff_ne.2 h5]
            by_cases h6 : 1 < k
            · rw [decide_eq_true h6, show decide (k ≤ 3) = false from decide_eq_false (by omega)]; rfl
            · rw [decide_eq_false h6]; rfl
      · rw [if_neg h3]
        by_cases h4 : than = 2
        · rw [if_pos h4]
          subst h4
          congr 1
          by_cases h5 : k = 3
          · subst h5; rfl
          · rw [beq_eq_false_iff_ne.2 h5]
            by_cases h6 : 2 < k
            · rw [decide_eq_true h6, show decide (k ≤ 3) = false from decide_eq_false (by omega)]; rfl
            · rw [decide_eq_false h6]; rfl
        · rw [if_neg h4]
          congr 1
          by_cases h6 : 1 ≤ than
          · by_cases h7 : than < k
            · rw [show decide (k ≤ 3) = false from decide_eq_false (by omega), Bool.and_false, Bool.and_false]
            · rw [decide_eq_false h7, Bool.false_and, Bool.and_false]
          · rw [decide_eq_false h6, Bool.false_and]
def widenB (l : List S25) (a : ByteArray) (k : Int) : List S25 × Int :=
  if 0 ≤ findI l a then (if kindB k = true then (if widerB k (rd_T25 l (findI l a)).f2 = true then (l.set (findI l a).toNat ⟨(rd_T25 l (findI l a)).f0, (rd_T25 l (findI l a)).f1, k⟩, 0) else ([], 12)) else ([], 1)) else ([], 121)
theorem refwiden (l : List S25) (a : ByteArray) (k : Int) (hl : l.length ≤ 1000) (K : Nat) (hK : 1001 ≤ K) : instarref12_Widen.f K l a k = some (widenB l a k) := by
  unfold instarref12_Widen.f widenB
  have hlt := findI_lt l a
  have hge := findI_ge l a
  rw [reffind l a (by omega) K (by omega), bnd]
  by_cases h : 0 ≤ findI l a
  · have hlt' := hlt h
    have hlt2 : findI l a < (l.length : Int) := by omega
    rw [if_neg (by omega)]
    simp only [if_pos h, if_pos hlt2]
    rw [refkind_f, bnd]
    cases hn : kindB k with
    | false => rw [if_neg (by decide), if_neg (by decide)]
    | true =>
      rw [if_pos rfl, if_pos rfl, refwider, bnd]
      cases hw : widerB k (rd_T25 l (findI l a)).f2 with
      | false => rw [if_neg (by decide), if_neg (by decide)]
      | true =>
        rw [if_pos rfl, if_pos rfl, bnd]
        simp only [List.length_nil, List.nil_append]
        rw [if_pos (by omega), bnd, if_pos (by omega)]
  · rw [if_pos (by omega), if_neg h]
theorem widen (l : List S25) (a : ByteArray) (k : Int) (hl : l.length ≤ 1000) (K : Nat) (hK : 2 ≤ K) : schema_Schema_Widen.f K l a k = some (widenB l a k) := by
  unfold schema_Schema_Widen.f widenB schema_Schema_Find.f
  have hlt := findI_lt l a
  rw [bnd]
  simp only [decide_eq_true_eq]
  by_cases h : 0 ≤ findI l a
  · have hlt' := hlt h
    have hm : max (findI l a) 0 = findI l a := by omega
    rw [if_pos h, if_pos h, kind_f, bnd]
    cases hn : kindB k with
    | false => rw [if_neg (by decide), if_neg (by decide)]
    | true =>
      rw [if_pos rfl, if_pos rfl, hm, if_pos h, if_pos (by omega), wider _ _ K hK, bnd]
      cases hw : widerB k (rd_T25 l (findI l a)).f2 with
      | false => rw [if_neg (by decide), if_neg (by decide)]
      | true =>
        rw [if_pos rfl, if_pos rfl]
        unfold slices_Clone.f
        rw [if_pos (by omega), bnd, if_pos (by omega)]
  · rw [if_neg h, if_neg h]
end Go.Proofs.YtkggdnnhgafopaaDoor
