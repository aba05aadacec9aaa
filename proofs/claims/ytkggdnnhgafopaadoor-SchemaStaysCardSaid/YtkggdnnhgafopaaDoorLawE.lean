/- Plain laws of SchemaStays: what is right, and what comes of it by each of the four changes; no program in sight. -/
import Derived.Test.YtkggdnnhgafopaaDoorLawC
set_option linter.unusedVariables false
namespace Go.Proofs.YtkggdnnhgafopaaDoor
open Go.RowKit Go.Lib Go.Shelf Go.Proofs.YtkggdnnhgafopaaDoorW.PrintWords Go.Proofs.YtkggdnnhgafopaaDoor.Kp Go.Proofs.YtkggdnnhgafopaaDoor.Gp Go.Proofs.YtkggdnnhgafopaaDoor.Jp Go.Proofs.YtkggdnnhgafopaaDoor.Lp
/-- Two columns that may stand in one schema. -/
def apart (x y : S25) : Prop := x.f0 ≠ y.f0 ∧ x.f1.toList ≠ y.f1.toList
theorem apart_symm {x y : S25} (h : apart x y) : apart y x := ⟨fun e => h.1 e.symm, fun e => h.2 e.symm⟩
def good (l : List S25) : Prop := 1 ≤ l.length ∧ l.length ≤ 12 ∧ (∀ x ∈ l, columnB x = true) ∧ l.Pairwise apart
theorem okAt_iff (l : List S25) (i : Nat) (hi : i < l.length) : okAt l i = true ↔ columnB l[i] = true ∧ ∀ (j : Nat) (hj : j < i), apart (l[j]'(by omega)) l[i] := by
  unfold okAt
  rw [getElem!_pos l i hi, Bool.and_eq_true, Bool.not_eq_true', and_comm]
  refine and_congr_right fun _ => ?_
  rw [Bool.eq_false_iff, ne_eq, List.any_eq_true]
  constructor
  · intro h j hj
    constructor
    · intro e
      exact h ⟨l[j], List.mem_iff_getElem.2 ⟨j, by simp; omega, by simp⟩, by simp [sameAs, e]⟩
    · intro e
      exact h ⟨l[j], List.mem_iff_getElem.2 ⟨j, by simp; omega, by simp⟩, by simp [sameAs, e]⟩
  · rintro h ⟨x, hx, hs⟩
    obtain ⟨j, hj, rfl⟩ := List.mem_iff_getElem.1 hx
    simp only [List.length_take] at hj
    have hj' : j < i := by omega
    have ha := h j hj'
    simp only [List.getElem_take, sameAs, Bool.or_eq_true, beq_iff_eq] at hs
    rcases hs with hs | hs
    · exact ha.1 hs
    · exact ha.2 hs
theorem rightB_iff (l : List S25) : rightB l = true ↔ good l := by
  unfold rightB good
  rw [Bool.and_eq_true, Bool.and_eq_true, decide_eq_true_eq, decide_eq_true_eq, List.all_eq_true]
  refine and_congr_right fun _ => and_congr_right fun _ => ?_
  constructor
  · intro h
    constructor
    · intro x hx
      obtain ⟨i, hi, rfl⟩ := List.mem_iff_getElem.1 hx
      exact ((okAt_iff l i hi).1 (h i (List.mem_range.2 hi))).1
    · rw [List.pairwise_iff_getElem]
      intro i j hi hj hij
      exact ((okAt_iff l j hj).1 (h j (List.mem_range.2 hj))).2 i hij
  · rintro ⟨h1, h2⟩ i hi
    have hi' := List.mem_range.1 hi
    rw [List.pairwise_iff_getElem] at h2
    exact (okAt_iff l i hi').2 ⟨h1 _ (List.getElem_mem hi'), fun j hj => h2 j i (by omega) hi' hj⟩
theorem findI_any (l : List S25) (n : ByteArray) : 0 ≤ findI l n ↔ ∃ x ∈ l, x.f1.toList = n.toList := by
  have h := any_idx (fun x => x.f1.toList == n.toList) l
  have e : decide (0 ≤ findI l n) = l.any (fun x => x.f1.toList == n.toList) := h
  constructor
  · intro hp
    rw [decide_eq_true hp] at e
    obtain ⟨x, hx, hb⟩ := List.any_eq_true.1 e.symm
    exact ⟨x, hx, beq_iff_eq.1 hb⟩
  · rintro ⟨x, hx, hb⟩
    have : l.any (fun x => x.f1.toList == n.toList) = true := List.any_eq_true.2 ⟨x, hx, beq_iff_eq.2 hb⟩
    rw [this] at e
    exact of_decide_eq_true e
theorem idxFrom_at (p : S25 → Bool) (x : S25) : ∀ (l : List S25) (i : Nat), 0 ≤ Lib.idxByFrom (fun _ y => p y) x l i → ∃ (k : Nat) (hk : k < l.length), Lib.idxByFrom (fun _ y => p y) x l i = ((i + k : Nat) : Int) ∧ p l[k] = true := by
  intro l
  induction l with
  | nil => intro i h; simp [Lib.idxByFrom] at h
  | cons y l ih =>
    intro i h
    rw [Lib.idxByFrom] at h ⊢
    by_cases hp : p y = true
    · rw [if_pos hp]
      exact ⟨0, by simp, by simp, hp⟩
    · rw [if_neg hp] at h ⊢
      obtain ⟨k, hk, e, h2⟩ := ih (i + 1) h
      exact ⟨k + 1, by simpa using hk, by rw [e]; congr 1; omega, by simpa using h2⟩
theorem findI_at (l : List S25) (n : ByteArray) (h : 0 ≤ findI l n) : ∃ (k : Nat) (hk : k < l.length), findI l n = (k : Int) ∧ l[k].f1.toList = n.toList := by
  obtain ⟨k, hk, e, h2⟩ := idxFrom_at (fun x => x.f1.toList == n.toList) default l 0 h
  refine ⟨k, hk, ?_, beq_iff_eq.1 h2⟩
  have : findI l n = ((0 + k : Nat) : Int) := e
  rw [this, Nat.zero_add]
theorem good_at {l : List S25} (h : good l) (i j : Nat) (hi : i < l.length) (hj : j < l.length) (hij : i ≠ j) : apart l[i] l[j] := by
  have hp := h.2.2.2
  rw [List.pairwise_iff_getElem] at hp
  rcases Nat.lt_or_ge i j with h1 | h1
  · exact hp i j hi hj h1
  · exact apart_symm (hp j i hj hi (by omega))
/-! ### with a column more -/
theorem stays_add {l : List S25} {c : S25} (hg : good l) (h : (addB l c).2 = 0) : (addB l c).1 = l ++ [c] ∧ rightB (l ++ [c]) = true := by
  unfold addB at h ⊢
  by_cases h1 : (!columnB c || l.any (fun x => x.f0 == c.f0)) = true
  · rw [if_pos h1] at h; exact absurd h (by decide)
  rw [if_neg h1] at h ⊢
  by_cases h2 : 0 ≤ findI l c.f1
  · rw [if_pos h2] at h; exact absurd h (by decide)
  rw [if_neg h2] at h ⊢
  by_cases h3 : 12 ≤ l.length
  · rw [if_pos h3] at h; exact absurd h (by decide)
  rw [if_neg h3] at h ⊢
  refine ⟨rfl, (rightB_iff _).2 ⟨by simp, by simp; omega, ?_, ?_⟩⟩
  · intro x hx
    rcases List.mem_append.1 hx with hx | hx
    · exact hg.2.2.1 x hx
    · simp only [List.mem_cons, List.not_mem_nil, or_false] at hx
      subst hx
      cases hc : columnB x with
      | true => rfl
      | false => rw [hc] at h1; simp at h1
  · rw [List.pairwise_append]
    refine ⟨hg.2.2.2, List.pairwise_singleton _ _, ?_⟩
    intro x hx y hy
    simp only [List.mem_cons, List.not_mem_nil, or_false] at hy
    subst hy
    constructor
    · intro e
      refine h1 ?_
      have ha : l.any (fun x => x.f0 == y.f0) = true := List.any_eq_true.2 ⟨x, hx, beq_iff_eq.2 e⟩
      rw [ha, Bool.or_true]
    · intro e
      exact h2 ((findI_any l y.f1).2 ⟨x, hx, e⟩)
/-! ### with a column less -/
theorem stays_drop {l : List S25} {n : ByteArray} (hg : good l) : ((dropB l n).2 = 0 → rightB (dropB l n).1 = true ∧ (dropB l n).1.length = l.length - 1) ∧ findI (dropB l n).1 n < 0 := by
  unfold dropB
  have hnil : findI [] n < 0 := by rw [show findI [] n = -1 from rfl]; decide
  by_cases h1 : 0 ≤ findI l n
  · rw [if_pos h1]
    by_cases h2 : l.length = 1
    · rw [if_pos h2]
      exact ⟨fun h => absurd h (by decide), hnil⟩
    · rw [if_neg h2]
      obtain ⟨k, hk, e, hkn⟩ := findI_at l n h1
      rw [e, Int.toNat_natCast]
      have hsub := List.eraseIdx_sublist l k
      have hlen : (l.eraseIdx k).length = l.length - 1 := List.length_eraseIdx_of_lt hk
      have g1 := hg.1
      have g2 := hg.2.1
      refine ⟨fun _ => ⟨(rightB_iff _).2 ⟨by rw [hlen]; omega, by rw [hlen]; omega, fun x hx => hg.2.2.1 x (hsub.subset hx), hg.2.2.2.sublist hsub⟩, hlen⟩, ?_⟩
      rcases Int.lt_or_le (findI (l.eraseIdx k) n) 0 with h | h
      · exact h
      · exfalso
        obtain ⟨x, hx, hxn⟩ := (findI_any _ n).1 h
        obtain ⟨j, hj, rfl⟩ := List.mem_iff_getElem.1 hx
        rw [List.getElem_eraseIdx] at hxn
        split at hxn
        · exact (good_at hg j k (by omega) hk (by omega)).2 (hxn.trans hkn.symm)
        · exact (good_at hg (j + 1) k (by omega) hk (by omega)).2 (hxn.trans hkn.symm)
  · rw [if_neg h1]
    exact ⟨fun h => absurd h (by decide), hnil⟩
/-! ### one column put in another's place -/
theorem set_good {l : List S25} (hg : good l) (k : Nat) (hk : k < l.length) (y : S25) (hy : columnB y = true) (ha : ∀ (j : Nat) (hj : j < l.length), j ≠ k → apart l[j] y) : rightB (l.set k y) = true := by
  refine (rightB_iff _).2 ⟨by rw [List.length_set]; exact hg.1, by rw [List.length_set]; exact hg.2.1, ?_, ?_⟩
  · intro x hx
    rcases List.mem_or_eq_of_mem_set hx with hx | rfl
    · exact hg.2.2.1 x hx
    · exact hy
  · rw [List.pairwise_iff_getElem]
    intro i j hi hj hij
    rw [List.length_set] at hi hj
    rw [List.getElem_set, List.getElem_set]
    by_cases h1 : k = i
    · rw [if_pos h1, if_neg (by omega)]
      exact apart_symm (ha j hj (by omega))
    · rw [if_neg h1]
      by_cases h2 : k = j
      · rw [if_pos h2]
        exact ha i hi (by omega)
      · rw [if_neg h2]
        exact good_at hg i j hi hj (by omega)
theorem column_parts {x : S25} (h : columnB x = true) : 1 ≤ x.f0 ∧ nameB x.f1 = true ∧ kindB x.f2 = true := by
  unfold columnB at h
  rw [Bool.and_eq_true, Bool.and_eq_true, decide_eq_true_eq] at h
  exact h
theorem column_of {x : S25} (h : 1 ≤ x.f0 ∧ nameB x.f1 = true ∧ kindB x.f2 = true) : columnB x = true := by
  unfold columnB
  rw [decide_eq_true h.1, h.2.1, h.2.2]
  rfl
theorem stays_rename {l : List S25} {a b : ByteArray} (hg : good l) : ((renameB l a b).2 = 0 → rightB (renameB l a b).1 = true ∧ (renameB l a b).1.length = l.length ∧ (∀ (i : Nat), i < l.length → (rd_T25 (renameB l a b).1 i).f0 = (rd_T25 l i).f0) ∧ 0 ≤ findI (renameB l a b).1 b) ∧ findI (renameB l a b).1 a < 0 := by
  unfold renameB
  have hnil : findI [] a < 0 := by rw [show findI [] a = -1 from rfl]; decide
  by_cases h1 : 0 ≤ findI l a
  · rw [if_pos h1]
    by_cases h2 : nameB b = true
    · rw [if_pos h2]
      by_cases h3 : 0 ≤ findI l b
      · rw [if_pos h3]
        exact ⟨fun h => absurd h (by decide), hnil⟩
      · rw [if_neg h3]
        obtain ⟨k, hk, e, hkn⟩ := findI_at l a h1
        rw [e, Int.toNat_natCast, rd_at l k hk]
        have hb : ∀ (j : Nat) (hj : j < l.length), l[j].f1.toList ≠ b.toList := fun j hj he => h3 ((findI_any l b).2 ⟨_, List.getElem_mem hj, he⟩)
        have hc := column_parts (hg.2.2.1 _ (List.getElem_mem hk))
        refine ⟨fun _ => ⟨set_good hg k hk _ (column_of ⟨hc.1, h2, hc.2.2⟩) (fun j hj hjk => ⟨(good_at hg j k hj hk hjk).1, hb j hj⟩), List.length_set, ?_, ?_⟩, ?_⟩
        · intro i hi
          rw [rd_at _ i (by rw [List.length_set]; exact hi), rd_at l i hi, List.getElem_set]
          split
          · rename_i hki; subst hki; rfl
          · rfl
        · exact (findI_any _ b).2 ⟨_, List.mem_iff_getElem.2 ⟨k, by rw [List.length_set]; exact hk, List.getElem_set_self ..⟩, rfl⟩
        · rcases Int.lt_or_le (findI (l.set k ⟨l[k].f0, b, l[k].f2⟩) a) 0 with h | h
          · exact h
          · exfalso
            obtain ⟨x, hx, hxn⟩ := (findI_any _ a).1 h
            obtain ⟨j, hj, rfl⟩ := List.mem_iff_getElem.1 hx
            rw [List.length_set] at hj
            rw [List.getElem_set] at hxn
            split at hxn
            · exact hb k hk (hkn.trans hxn.symm)
            · exact (good_at hg j k hj hk (by omega)).2 (hxn.trans hkn.symm)
    · rw [if_neg h2]
      exact ⟨fun h => absurd h (by decide), hnil⟩
  · rw [if_neg h1]
    exact ⟨fun h => absurd h (by decide), hnil⟩
theorem stays_widen {l : List S25} {a : ByteArray} {t : Int} (hg : good l) (h : (widenB l a t).2 = 0) : rightB (widenB l a t).1 = true ∧ (widenB l a t).1.length = l.length ∧ (∀ (i : Nat), i < l.length → (rd_T25 (widenB l a t).1 i).f0 = (rd_T25 l i).f0 ∧ (rd_T25 (widenB l a t).1 i).f1 = (rd_T25 l i).f1) := by
  unfold widenB at h ⊢
  by_cases h1 : 0 ≤ findI l a
  · rw [if_pos h1] at h ⊢
    by_cases h2 : kindB t = true
    · rw [if_pos h2] at h ⊢
      by_cases h3 : widerB t (rd_T25 l (findI l a)).f2 = true
      · rw [if_pos h3] at h ⊢
        obtain ⟨k, hk, e, hkn⟩ := findI_at l a h1
        rw [e, Int.toNat_natCast, rd_at l k hk]
        have hc := column_parts (hg.2.2.1 _ (List.getElem_mem hk))
        refine ⟨set_good hg k hk _ (column_of ⟨hc.1, hc.2.1, h2⟩) (fun j hj hjk => good_at hg j k hj hk hjk), List.length_set, ?_⟩
        intro i hi
        rw [rd_at _ i (by rw [List.length_set]; exact hi), rd_at l i hi, List.getElem_set]
        split
        · rename_i hki; subst hki; exact ⟨rfl, rfl⟩
        · exact ⟨rfl, rfl⟩
      · rw [if_neg h3] at h; exact absurd h (by decide)
    · rw [if_neg h2] at h; exact absurd h (by decide)
  · rw [if_neg h1] at h; exact absurd h (by decide)
end Go.Proofs.YtkggdnnhgafopaaDoor
