/- Plain laws of names: how many bytes that are wanted come; no program in sight. -/
import Derived.Test.YtkggdnnhgafopaaDoorSch4
import Derived.Laws.RangeAny
set_option linter.unusedVariables false
namespace Go.Proofs.YtkggdnnhgafopaaDoor
open Go.RowKit Go.Lib Go.Shelf Go.Proofs.YtkggdnnhgafopaaDoorW.PrintWords Go.Proofs.YtkggdnnhgafopaaDoor.Kp
/-- How many bytes that are wanted come. -/
def runP (p : Nat → Bool) (l : List UInt8) : Nat := (l.takeWhile fun c => p c.toNat).length
theorem nameR_ascii {x : Int} (h : nameR x = true) : 0 ≤ x ∧ x < 128 := by
  simp only [nameR, letR, figR, Bool.or_eq_true, Bool.and_eq_true, decide_eq_true_eq, beq_iff_eq] at h
  omega
theorem figR_ascii {x : Int} (h : figR x = true) : 0 ≤ x ∧ x < 128 := by
  simp only [figR, Bool.and_eq_true, decide_eq_true_eq] at h
  omega
theorem runP_le (p : Nat → Bool) (l : List UInt8) : runP p l ≤ l.length := (List.takeWhile_sublist _).length_le
theorem idx_run (p : Nat → Bool) (hp : ∀ n, p n = true → n < 128) (s : ByteArray) : ∀ (f pos : Nat), s.size - pos ≤ f → pos ≤ s.size →
    Lib.idxFuncFrom (fun n => !p n) true s f pos = if pos + runP p (s.data.toList.drop pos) < s.size then ((pos + runP p (s.data.toList.drop pos) : Nat) : Int) else -1 := by
  have hsz : s.data.toList.length = s.size := Array.length_toList
  intro f
  induction f with
  | zero =>
    intro pos h1 h2
    have e : s.data.toList.drop pos = [] := List.drop_eq_nil_of_le (by omega)
    rw [e, if_neg (by simp [runP]; omega)]
    rfl
  | succ f ih =>
    intro pos h1 h2
    by_cases hlt : pos < s.size
    · have hd : s.data.toList.drop pos = s[pos] :: s.data.toList.drop (pos + 1) := by
        rw [List.drop_eq_getElem_cons (by omega)]
        congr 1
      rw [Lib.idxFuncFrom, if_pos hlt, hd]
      by_cases ha : (s[pos]).toNat < 128
      · rw [decode_ascii s pos hlt ha]
        simp only
        by_cases hq : p (s[pos]).toNat = true
        · rw [if_neg (by simp [hq]), ih (pos + 1) (by omega) (by omega)]
          have : runP p (s[pos] :: s.data.toList.drop (pos + 1)) = runP p (s.data.toList.drop (pos + 1)) + 1 := by simp [runP, hq]
          rw [this, show pos + (runP p (s.data.toList.drop (pos + 1)) + 1) = pos + 1 + runP p (s.data.toList.drop (pos + 1)) by omega]
        · have hq' := Bool.eq_false_iff.2 hq
          have : runP p (s[pos] :: s.data.toList.drop (pos + 1)) = 0 := by simp [runP, hq']
          rw [if_pos (by simp [hq']), this, if_pos (by omega)]
          rfl
      · have hh := (decode_high s pos hlt (by omega)).1
        have h0 : p (Utf8.decode s pos).1 = false := by
          cases hx : p (Utf8.decode s pos).1 with
          | false => rfl
          | true => have := hp _ hx; omega
        have h3 : p (s[pos]).toNat = false := by
          cases hx : p (s[pos]).toNat with
          | false => rfl
          | true => have := hp _ hx; omega
        have : runP p (s[pos] :: s.data.toList.drop (pos + 1)) = 0 := by simp [runP, h3]
        rw [if_pos (by simp [h0]), this, if_pos (by omega)]
        rfl
    · have e : s.data.toList.drop pos = [] := List.drop_eq_nil_of_le (by omega)
      rw [Lib.idxFuncFrom_end _ _ _ _ _ hlt, e, if_neg (by simp [runP]; omega)]
/-- How many bytes that are wanted come, as length tells. -/
theorem lenB_run (p : Nat → Bool) (hp : ∀ n, p n = true → n < 128) (s : ByteArray) : lenB p s = (runP p s.data.toList : Int) := by
  have hsz : s.data.toList.length = s.size := Array.length_toList
  have h := idx_run p hp s s.size 0 (by omega) (by omega)
  have hr := runP_le p s.data.toList
  unfold lenB
  show (if 0 ≤ Lib.idxFuncFrom (fun n => !p n) true s s.size 0 then Lib.idxFuncFrom (fun n => !p n) true s s.size 0 else (s.size : Int)) = _
  rw [h]
  simp only [Nat.zero_add, List.drop_zero]
  by_cases hlt : runP p s.data.toList < s.size
  · rw [if_pos hlt, if_pos (by omega)]
  · rw [if_neg hlt, if_neg (by omega)]
    congr 1
    omega
theorem nat_nameR : ∀ n : Nat, nameR (n : Int) = true → n < 128 := fun n h => by have := nameR_ascii h; omega
theorem nat_figR : ∀ n : Nat, figR (n : Int) = true → n < 128 := fun n h => by have := figR_ascii h; omega
/-- A text that may be a name, but for the language's own. -/
def nameB0 : List UInt8 → Bool
  | [] => false
  | c :: l => letR (c.toNat : Int) && (c :: l).all (fun c => nameR (c.toNat : Int)) && decide ((c :: l).length ≤ 20)
theorem takeWhile_take (p : UInt8 → Bool) (l : List UInt8) : l.take (l.takeWhile p).length = l.takeWhile p := by
  induction l with
  | nil => rfl
  | cons c l ih =>
    by_cases h : p c = true
    · simp [h, ih]
    · simp [h]
theorem takeWhile_all (p : UInt8 → Bool) (l : List UInt8) : (l.takeWhile p).all p = true := by
  induction l with
  | nil => rfl
  | cons c l ih =>
    by_cases h : p c = true
    · simp [h, ih]
    · simp [h]
/-- A word of a name's kind is a name. -/
theorem one_named (s t : ByteArray) (a n : Int) (h : oneW s = (0, t, a, n)) (hn : n ≠ 0) : nameB0 t.data.toList = true := by
  unfold oneW at h
  cases hl : s.data.toList with
  | nil =>
    rw [hl] at h
    simp only [Prod.mk.injEq] at h
    exact absurd h.2.2.2.symm hn
  | cons c r =>
    rw [hl] at h
    simp only at h
    by_cases hc : letR (c.toNat : Int) = true
    · rw [if_pos hc] at h
      by_cases h20 : lenB (fun n => nameR n) s ≤ 20
      · rw [if_pos h20] at h
        simp only [Prod.mk.injEq, true_and] at h
        obtain ⟨rfl, _, rfl⟩ := h
        rw [lenB_run _ nat_nameR, hl] at h20 ⊢
        have hcn : nameR (c.toNat : Int) = true := by simp [nameR, hc]
        have e : (s.extract 0 (((runP (fun n => nameR (n : Int)) (c :: r) : Nat) : Int)).toNat).data.toList = (c :: r).takeWhile (fun c => nameR (c.toNat : Int)) := by
          rw [Int.toNat_natCast, Lib.extract_data, hl]
          simp only [List.drop_zero, Nat.sub_zero]
          exact takeWhile_take _ _
        rw [e]
        have e2 : (c :: r).takeWhile (fun c => nameR (c.toNat : Int)) = c :: r.takeWhile (fun c => nameR (c.toNat : Int)) := by simp [hcn]
        have ha := takeWhile_all (fun c : UInt8 => nameR (c.toNat : Int)) (c :: r)
        have hz : ((c :: r).takeWhile (fun c => nameR (c.toNat : Int))).length ≤ 20 := by
          have : runP (fun n => nameR (n : Int)) (c :: r) = ((c :: r).takeWhile (fun c => nameR (c.toNat : Int))).length := rfl
          omega
        rw [e2] at ha hz ⊢
        simp only [nameB0, hc, ha, Bool.true_and]
        exact decide_eq_true hz
      · rw [if_neg h20] at h
        simp only [Prod.mk.injEq] at h
        exact absurd h.2.2.2.symm hn
    · rw [if_neg hc] at h
      exfalso
      have mk : markW s ≠ (0, t, a, n) := by
        intro e
        unfold markW at e
        split at e
        · simp only [Prod.mk.injEq] at e
          exact hn e.2.2.2.symm
        · simp only [Prod.mk.injEq] at e
          exact absurd e.1 (by decide)
      split at h
      · split at h
        · simp only [Prod.mk.injEq] at h
          exact absurd h.1 (by decide)
        · simp only [Prod.mk.injEq] at h
          exact hn h.2.2.2.symm
      · split at h
        · split at h
          · split at h
            · simp only [Prod.mk.injEq] at h
              exact absurd h.1 (by decide)
            · exact mk h
          · simp only [Prod.mk.injEq] at h
            exact hn h.2.2.2.symm
        · exact mk h
end Go.Proofs.YtkggdnnhgafopaaDoor
/-! Plain laws of names: a name is one word; no program in sight. -/
set_option linter.unusedVariables false
namespace Go.Proofs.YtkggdnnhgafopaaDoor
open Go.RowKit Go.Lib Go.Shelf Go.Proofs.YtkggdnnhgafopaaDoorW.PrintWords Go.Proofs.YtkggdnnhgafopaaDoor.Kp
theorem bytes_ext {a b : ByteArray} (h : a.data.toList = b.data.toList) : a = b := by
  cases a; cases b; simp at h; simp [h]
theorem takeWhile_id (p : UInt8 → Bool) (l : List UInt8) (h : l.all p = true) : l.takeWhile p = l := by
  induction l with
  | nil => rfl
  | cons c l ih =>
    rw [List.all_cons, Bool.and_eq_true] at h
    simp [h.1, ih h.2]
theorem one_of_name (s : ByteArray) (h : nameB0 s.data.toList = true) : oneW s = (0, s, 0, (s.size : Int)) := by
  have hsz : s.data.toList.length = s.size := Array.length_toList
  cases hl : s.data.toList with
  | nil => rw [hl] at h; cases h
  | cons c r =>
    rw [hl] at h hsz
    simp only [nameB0, Bool.and_eq_true, decide_eq_true_eq] at h
    obtain ⟨⟨hc, ha⟩, h20⟩ := h
    have hL : lenB (fun n => nameR (n : Int)) s = (s.size : Int) := by
      rw [lenB_run _ nat_nameR, hl]
      unfold runP
      rw [takeWhile_id _ _ ha, hsz]
    unfold oneW
    rw [hl]
    simp only
    rw [if_pos hc, hL, if_pos (by omega)]
    congr 1
    congr 1
    apply bytes_ext
    rw [Lib.extract_data, Int.toNat_natCast]
    simp only [List.drop_zero, Nat.sub_zero]
    exact List.take_of_length_le (by rw [hl]; omega)
theorem let_blank (c : UInt8) (h : letR (c.toNat : Int) = true) : ([32, 9, 10] : List UInt8).contains c = false := by
  simp only [letR, Bool.or_eq_true, Bool.and_eq_true, decide_eq_true_eq] at h
  have h1 : c ≠ 32 := fun e => by subst e; revert h; decide
  have h2 : c ≠ 9 := fun e => by subst e; revert h; decide
  have h3 : c ≠ 10 := fun e => by subst e; revert h; decide
  simp [h1, h2, h3]
theorem trim_name (s : ByteArray) (h : nameB0 s.data.toList = true) : strings_TrimLeft.f s ⟨#[32, 9, 10]⟩ = some s := by
  unfold strings_TrimLeft.f
  rw [if_pos rfl]
  congr 1
  apply bytes_ext
  show Lib.trimLeftS s.data.toList [32, 9, 10] = _
  cases hl : s.data.toList with
  | nil => rfl
  | cons c r =>
    rw [hl] at h
    simp only [nameB0, Bool.and_eq_true] at h
    unfold Lib.trimLeftS
    rw [List.dropWhile_cons, if_neg (by rw [let_blank c h.1.1]; decide)]
theorem trim_empty (s : ByteArray) (h : s.data.toList = []) : strings_TrimLeft.f s ⟨#[32, 9, 10]⟩ = some s := by
  unfold strings_TrimLeft.f
  rw [if_pos rfl]
  congr 1
  apply bytes_ext
  show Lib.trimLeftS s.data.toList [32, 9, 10] = _
  rw [h]; rfl
end Go.Proofs.YtkggdnnhgafopaaDoor
/-! Plain laws of names: a round of Words; no program in sight. -/
set_option linter.unusedVariables false
namespace Go.Proofs.YtkggdnnhgafopaaDoor
open Go.RowKit Go.Lib Go.Shelf Go.Proofs.YtkggdnnhgafopaaDoorW.PrintWords Go.Proofs.YtkggdnnhgafopaaDoor.Kp Go.Proofs.YtkggdnnhgafopaaDoor.Gp
theorem bnd {α β : Type} (a : α) (f : α → Option β) : (some a).bind f = f a := of_eq_true (by simp)
theorem trim_f (s : ByteArray) : strings_TrimLeft.f s ⟨#[32, 9, 10]⟩ = some ⟨(Lib.trimLeftS s.data.toList [32, 9, 10]).toArray⟩ := by
  unfold strings_TrimLeft.f
  rw [if_pos rfl]
theorem one_f (s : ByteArray) (h1 : 1 ≤ s.size) (h2 : s.size ≤ 1000000) : lex_one.f s = some (oneW s) := by
  unfold lex_one.f
  rw [if_pos ⟨h1, h2⟩]
theorem words_step (k : Nat) (s : ByteArray) (acc : List S71) (pos : Nat) (hp : pos ≤ s.size) (hz : s.size ≤ 1000000) (ha : acc.length < 4398046511104) :
    ∃ q : Nat, q = pos + (s.size - pos - (Lib.trimLeftS (s.extract pos s.size).data.toList [32, 9, 10]).length) ∧ pos ≤ q ∧ q ≤ s.size ∧ (q = s.size → lex_Words.l0 (k + 1) s acc pos = some (acc, 0, 0)) ∧
      (q < s.size → (oneW (s.extract q s.size)).2.2.2 = 0 → lex_Words.l0 (k + 1) s acc pos = some ([], (q : Int), 81)) ∧
      (q < s.size → (oneW (s.extract q s.size)).2.2.2 ≠ 0 → lex_Words.l0 (k + 1) s acc pos = lex_Words.l0 k s (acc ++ [⟨(oneW (s.extract q s.size)).1, (oneW (s.extract q s.size)).2.1, (q : Int)⟩]) (wrap64 ((q : Int) + (oneW (s.extract q s.size)).2.2.2))) := by
  have hx : (s.extract pos s.size).size = s.size - pos := by simp
  have ht : (Lib.trimLeftS (s.extract pos s.size).data.toList [32, 9, 10]).length ≤ s.size - pos := by
    have e : (s.extract pos s.size).data.toList.length = (s.extract pos s.size).size := Array.length_toList
    have := (List.dropWhile_sublist (fun c => ([32, 9, 10] : List UInt8).contains c) (l := (s.extract pos s.size).data.toList)).length_le
    unfold Lib.trimLeftS
    omega
  generalize hT : Lib.trimLeftS (s.extract pos s.size).data.toList [32, 9, 10] = T at *
  have hts : (⟨T.toArray⟩ : ByteArray).size = T.length := by
    show T.toArray.size = _
    simp
  have hq : wrap64 ((pos : Int) + wrap64 (((s.extract pos s.size).size : Int) - ((⟨T.toArray⟩ : ByteArray).size : Int))) = ((pos + (s.size - pos - T.length) : Nat) : Int) := by
    rw [hx, hts]
    unfold wrap64
    omega
  have step : lex_Words.l0 (k + 1) s acc pos = (if ((pos + (s.size - pos - T.length) : Nat) : Int) = (s.size : Int) then some (acc, 0, 0) else (lex_one.f (s.extract (pos + (s.size - pos - T.length)) s.size)).bind fun b => if b.2.2.2 = 0 then some ([], ((pos + (s.size - pos - T.length) : Nat) : Int), 81) else lex_Words.l0 k s (acc ++ [⟨b.1, b.2.1, ((pos + (s.size - pos - T.length) : Nat) : Int)⟩]) (wrap64 (((pos + (s.size - pos - T.length) : Nat) : Int) + b.2.2.2))) := by
    rw [lex_Words.l0, if_pos (by omega), if_pos (by omega), Int.toNat_natCast, trim_f, hT, bnd]
    simp only [hq, Int.toNat_natCast]
    by_cases h : ((pos + (s.size - pos - T.length) : Nat) : Int) = (s.size : Int)
    · rw [if_pos h, if_pos h]
    · rw [if_neg h, if_neg h, if_pos (by omega), if_pos (by omega)]
      congr 1
      funext b
      rw [if_pos ha]
  refine ⟨pos + (s.size - pos - T.length), rfl, by omega, by omega, fun h => ?_, fun h h0 => ?_, fun h h0 => ?_⟩
  · rw [step, if_pos (by omega)]
  · rw [step, if_neg (by omega), one_f _ (by simp; omega) (by simp; omega), bnd, if_pos h0]
  · rw [step, if_neg (by omega), one_f _ (by simp; omega) (by simp; omega), bnd, if_neg h0]
theorem extract_all (s : ByteArray) : s.extract 0 s.size = s := by
  apply bytes_ext
  rw [Lib.extract_data]
  simp only [List.drop_zero, Nat.sub_zero]
  exact List.take_of_length_le (Nat.le_of_eq Array.length_toList)
/-- A name is one word. -/
theorem words_name (k : Nat) (s : ByteArray) (h : nameB0 s.data.toList = true) (hz : s.size ≤ 1000000) : lex_Words.f (k + 2) s = some ([⟨0, s, 0⟩], 0, 0) := by
  have hsz : s.data.toList.length = s.size := Array.length_toList
  have hpos : 0 < s.size := by
    cases hl : s.data.toList with
    | nil => rw [hl] at h; cases h
    | cons c r => rw [hl] at hsz; simp at hsz; omega
  obtain ⟨q, hq, _, _, _, _, h3⟩ := words_step (k + 1) s [] 0 (Nat.zero_le _) hz (by decide)
  have htr : Lib.trimLeftS s.data.toList [32, 9, 10] = s.data.toList := by
    have := trim_name s h
    rw [trim_f] at this
    have e := congrArg (fun b : ByteArray => b.data.toList) (Option.some.inj this)
    simpa using e
  rw [extract_all, htr, hsz] at hq
  have hq0 : q = 0 := by omega
  subst hq0
  have ho := one_of_name s h
  rw [extract_all, ho] at h3
  unfold lex_Words.f
  have e := h3 hpos (by simp only; omega)
  rw [show ((0 : Nat) : Int) = 0 from rfl] at e
  rw [e]
  simp only [List.nil_append]
  obtain ⟨q2, hq2, h5, h6, h7, _, _⟩ := words_step k s [⟨0, s, 0⟩] s.size (Nat.le_refl _) hz (by show 1 < 4398046511104; decide)
  have hw : wrap64 (0 + (s.size : Int)) = (s.size : Int) := by unfold wrap64; omega
  rw [hw]
  exact h7 (by omega)
end Go.Proofs.YtkggdnnhgafopaaDoor
/-! Plain laws of names: how many bytes a word has; no program in sight. -/
set_option linter.unusedVariables false
namespace Go.Proofs.YtkggdnnhgafopaaDoor
open Go.RowKit Go.Lib Go.Shelf Go.Proofs.YtkggdnnhgafopaaDoorW.PrintWords Go.Proofs.YtkggdnnhgafopaaDoor.Kp Go.Proofs.YtkggdnnhgafopaaDoor.Gp
theorem quoteL_le : ∀ (m : Nat) (l t : List UInt8) (n : Nat), l.length ≤ m → quoteL l = some (t, n) → n ≤ l.length := by
  intro m
  induction m with
  | zero => intro l t n hl h; cases l with | nil => simp [quoteL] at h | cons => simp at hl
  | succ m ih =>
    intro l t n hl h
    match l, hl, h with
    | [], _, h => simp [quoteL] at h
    | [c], _, h =>
      simp only [quoteL] at h
      split at h
      · cases h; simp
      · cases h
    | c :: d :: l, hl, h =>
      simp only [quoteL] at h
      split at h
      · split at h
        · obtain ⟨⟨t', n'⟩, h1, h2⟩ := Option.map_eq_some_iff.1 h
          cases h2
          have := ih l t' n' (by simp at hl; omega) h1
          simp; omega
        · cases h; simp
      · obtain ⟨⟨t', n'⟩, h1, h2⟩ := Option.map_eq_some_iff.1 h
        cases h2
        have := ih (d :: l) t' n' (by simp at hl ⊢; omega) h1
        simp at this ⊢; omega
theorem prefix_le (l m : List UInt8) (h : Lib.hasPrefix l m = true) : m.length ≤ l.length := by
  have : m <+: l := by simpa [Lib.hasPrefix] using h
  exact this.length_le
theorem mark_range (s : ByteArray) : 0 ≤ (markW s).2.2.2 ∧ (markW s).2.2.2 ≤ s.size := by
  have hsz : s.data.toList.length = s.size := Array.length_toList
  unfold markW
  rcases markI_cases s.data.toList with h | ⟨j, hj, h, hp⟩
  · rw [if_pos h]; simp
  · rw [if_neg (by omega), h, Int.toNat_natCast]
    have := prefix_le _ _ hp
    have e : marksB[j]!.data.toList.length = marksB[j]!.size := Array.length_toList
    simp only
    omega
theorem one_range (s : ByteArray) (hz : s.size ≤ 1000000) : 0 ≤ (oneW s).2.2.2 ∧ (oneW s).2.2.2 ≤ s.size := by
  have hsz : s.data.toList.length = s.size := Array.length_toList
  have hm := mark_range s
  obtain ⟨q0, q1⟩ := lenB_range (fun n => nameR n) s
  obtain ⟨p0, p1⟩ := lenB_range (fun n => figR n) s
  unfold oneW
  cases hl : s.data.toList with
  | nil => simp
  | cons c r =>
    simp only
    split
    · split
      · exact ⟨q0, q1⟩
      · simp
    · split
      · split
        · exact ⟨p0, p1⟩
        · simp
      · split
        · split
          · rename_i t n ht
            split
            · unfold lex_quoted.f at ht
              split at ht
              · have ht2 := Option.some.inj ht
                rw [hl] at ht2
                simp only [List.drop_succ_cons, List.drop_zero] at ht2
                cases hq : quoteL r with
                | none =>
                  rw [hq] at ht2
                  simp only [Prod.mk.injEq] at ht2
                  rw [← ht2.2]; simp
                | some x =>
                  rw [hq] at ht2
                  simp only [Prod.mk.injEq] at ht2
                  have := quoteL_le r.length r x.1 x.2 (Nat.le_refl _) hq
                  rw [hl, List.length_cons] at hsz
                  simp only
                  omega
              · cases ht
            · exact hm
          · simp
        · exact hm
end Go.Proofs.YtkggdnnhgafopaaDoor
/-! Plain laws of names: what a text's words are, as far as names go; no program in sight. -/
set_option linter.unusedVariables false
namespace Go.Proofs.YtkggdnnhgafopaaDoor
open Go.RowKit Go.Lib Go.Shelf Go.Proofs.YtkggdnnhgafopaaDoorW.PrintWords Go.Proofs.YtkggdnnhgafopaaDoor.Kp Go.Proofs.YtkggdnnhgafopaaDoor.Gp
theorem words_any (s : ByteArray) (hz : s.size ≤ 1000000) : ∀ (m pos : Nat) (acc : List S71) (K : Nat), s.size - pos ≤ m → pos ≤ s.size → acc.length + m < 4398046511104 → m + 1 ≤ K → (∀ w ∈ acc, w.f0 = 0 → nameB0 w.f1.data.toList = true) →
    ∃ l a e, lex_Words.l0 K s acc pos = some (l, a, e) ∧ ∀ w ∈ l, w.f0 = 0 → nameB0 w.f1.data.toList = true := by
  intro m
  induction m with
  | zero =>
    intro pos acc K h1 h2 h3 h4 hacc
    obtain ⟨k, rfl⟩ : ∃ k, K = k + 1 := ⟨K - 1, by omega⟩
    obtain ⟨q, hq, h5, h6, h7, _, _⟩ := words_step k s acc pos h2 hz (by omega)
    exact ⟨acc, 0, 0, h7 (by omega), hacc⟩
  | succ m ih =>
    intro pos acc K h1 h2 h3 h4 hacc
    obtain ⟨k, rfl⟩ : ∃ k, K = k + 1 := ⟨K - 1, by omega⟩
    obtain ⟨q, hq, h5, h6, h7, h8, h9⟩ := words_step k s acc pos h2 hz (by omega)
    by_cases hqs : q = s.size
    · exact ⟨acc, 0, 0, h7 hqs, hacc⟩
    · have hlt : q < s.size := by omega
      have hx : (s.extract q s.size).size = s.size - q := by simp
      obtain ⟨r0, r1⟩ := one_range (s.extract q s.size) (by omega)
      by_cases h0 : (oneW (s.extract q s.size)).2.2.2 = 0
      · exact ⟨[], _, _, h8 hlt h0, fun w hw => by cases hw⟩
      · have hw : wrap64 ((q : Int) + (oneW (s.extract q s.size)).2.2.2) = ((q + (oneW (s.extract q s.size)).2.2.2.toNat : Nat) : Int) := by
          unfold wrap64
          omega
        rw [h9 hlt h0, hw]
        refine ih _ _ k (by omega) (by omega) (by simp; omega) (by omega) ?_
        intro w hw0 hw1
        rcases List.mem_append.1 hw0 with hw2 | hw2
        · exact hacc w hw2 hw1
        · simp only [List.mem_cons, List.not_mem_nil, or_false] at hw2
          subst hw2
          refine one_named (s.extract q s.size) _ (oneW (s.extract q s.size)).2.2.1 (oneW (s.extract q s.size)).2.2.2 ?_ h0
          simp only at hw1
          rw [← hw1]
end Go.Proofs.YtkggdnnhgafopaaDoor
/-! Plain laws of names: the language's own names; no program in sight. -/
set_option linter.unusedVariables false
namespace Go.Proofs.YtkggdnnhgafopaaDoor
open Go.RowKit Go.Lib Go.Shelf Go.Proofs.YtkggdnnhgafopaaDoorW.PrintWords Go.Proofs.YtkggdnnhgafopaaDoor.Kp Go.Proofs.YtkggdnnhgafopaaDoor.Gp
def owns : List (List UInt8) := [[116, 114, 117, 101], [102, 97, 108, 115, 101], [110, 117, 108, 108], [97, 110, 100], [111, 114], [110, 111, 116], [105, 115]]
def ownB (s : ByteArray) : Bool := owns.any fun w => s.toList == w
theorem refown_f (s : ByteArray) : instarref08_Own.f s = some (ownB s) := by
  unfold instarref08_Own.f ownB owns
  generalize s.toList = l
  repeat' split
  all_goals simp_all
def ownsB : List ByteArray := [⟨#[116, 114, 117, 101]⟩, ⟨#[102, 97, 108, 115, 101]⟩, ⟨#[110, 117, 108, 108]⟩, ⟨#[97, 110, 100]⟩, ⟨#[111, 114]⟩, ⟨#[110, 111, 116]⟩, ⟨#[105, 115]⟩]
theorem index_f (l : List ByteArray) (s : ByteArray) (hl : l.length ≤ 1000) : ∀ (m i : Nat) (K : Nat), i + m = l.length → m < K → ∃ r, slices_Index_string_string.l0 K l s (l.length : Int) i = some r ∧ (decide (r ≥ 0) = (l.drop i).any fun w => s.toList == w.toList) := by
  intro m
  induction m with
  | zero =>
    intro i K hi hK
    obtain ⟨k, rfl⟩ : ∃ k, K = k + 1 := ⟨K - 1, by omega⟩
    refine ⟨-1, ?_, ?_⟩
    · rw [slices_Index_string_string.l0, if_neg (by omega)]
    · rw [List.drop_eq_nil_of_le (by omega)]; rfl
  | succ m ih =>
    intro i K hi hK
    obtain ⟨k, rfl⟩ : ∃ k, K = k + 1 := ⟨K - 1, by omega⟩
    have hd : l.drop i = l[i] :: l.drop (i + 1) := List.drop_eq_getElem_cons (by omega)
    have hr : rdOf ByteArray.empty l (i : Int) = l[i] := by
      simp [rdOf, List.getD, List.getElem?_eq_getElem (show i < l.length by omega)]
    rw [slices_Index_string_string.l0, if_pos (by omega), if_pos (by omega), if_pos (by omega), hr, hd, List.any_cons]
    by_cases h : s.toList = l[i].toList
    · refine ⟨(i : Int), by rw [if_pos h], ?_⟩
      rw [beq_iff_eq.2 h, Bool.true_or]
      exact decide_eq_true (by omega)
    · obtain ⟨r, h1, h2⟩ := ih (i + 1) k (by omega) (by omega)
      refine ⟨r, ?_, ?_⟩
      · rw [if_neg h, show wrap64 ((i : Int) + 1) = ((i + 1 : Nat) : Int) by unfold wrap64; omega]
        exact h1
      · rw [h2, beq_eq_false_iff_ne.2 h, Bool.false_or]
theorem own_f (s : ByteArray) (K : Nat) (hK : 8 ≤ K) : lex_Own.f K s = some (ownB s) := by
  obtain ⟨r, h1, h2⟩ := index_f ownsB s (by decide) 7 0 K rfl (by omega)
  have e : slices_Index_string_string.f K ownsB s = some r := h1
  have ec : slices_Contains_string_string.f K ownsB s = some (decide (r ≥ 0)) := by
    unfold slices_Contains_string_string.f
    rw [e, bnd]
  unfold lex_Own.f
  unfold ownsB at ec
  rw [ec, bnd, h2]
  congr 1
  simp only [List.drop_zero, ownsB, ownB, owns, List.any_cons, List.any_nil, ByteArray.toList_eq]
end Go.Proofs.YtkggdnnhgafopaaDoor
/-! Plain laws of names: whether a text may be a name; no program in sight. -/
set_option linter.unusedVariables false
namespace Go.Proofs.YtkggdnnhgafopaaDoor
open Go.RowKit Go.Lib Go.Shelf Go.Proofs.YtkggdnnhgafopaaDoorW.PrintWords Go.Proofs.YtkggdnnhgafopaaDoor.Kp Go.Proofs.YtkggdnnhgafopaaDoor.Gp
/-- May a text be a name? -/
def nameB (s : ByteArray) : Bool := nameB0 s.data.toList && !ownB s
theorem name_f (s : ByteArray) (hz : s.size ≤ 1000000) (K : Nat) (hK : 1000010 ≤ K) : schema_Name.f K s = some (nameB s) := by
  by_cases h : nameB0 s.data.toList = true
  · obtain ⟨k, rfl⟩ : ∃ k, K = k + 2 := ⟨K - 2, by omega⟩
    unfold schema_Name.f
    rw [words_name k s h hz, bnd]
    simp only [List.length_cons, List.length_nil]
    rw [if_pos trivial, if_pos (by decide), if_pos (by decide)]
    have e : rd_T71 [⟨0, s, 0⟩] 0 = ⟨0, s, 0⟩ := rfl
    rw [e, if_pos rfl, if_pos rfl, own_f s _ (by omega), bnd]
    unfold nameB
    rw [h, Bool.true_and]
  · obtain ⟨l, a, e, h1, h2⟩ := words_any s hz s.size 0 [] K (by omega) (Nat.zero_le _) (by simp; omega) (by omega) (fun w hw => by cases hw)
    have h1' : lex_Words.f K s = some (l, a, e) := h1
    have hn : nameB s = false := by unfold nameB; rw [Bool.eq_false_iff.2 h, Bool.false_and]
    rw [hn]
    unfold schema_Name.f
    rw [h1', bnd]
    simp only
    by_cases he : e = 0
    · rw [if_pos he]
      by_cases hl : (l.length : Int) = 1
      · rw [if_pos hl, if_pos (by omega)]
        obtain ⟨x, rfl⟩ : ∃ x, l = [x] := by
          match l, hl with
          | [x], _ => exact ⟨x, rfl⟩
          | [], hl => simp at hl
          | _ :: _ :: _, hl => simp at hl; omega
        have ex : rd_T71 [x] 0 = x := rfl
        rw [ex]
        by_cases hk : x.f0 = 0
        · rw [if_pos hk, if_neg]
          intro ht
          have := h2 x (.head _) hk
          rw [ByteArray.toList_eq, ByteArray.toList_eq] at ht
          rw [ht] at this
          exact h this
        · rw [if_neg hk]
      · rw [if_neg hl]
    · rw [if_neg he]
end Go.Proofs.YtkggdnnhgafopaaDoor
/-! Plain laws of the document's names: what its lexer reads of one word; no program in sight. -/
set_option linter.unusedVariables false
namespace Go.Proofs.YtkggdnnhgafopaaDoor
open Go.RowKit Go.Lib Go.Shelf Go.Proofs.YtkggdnnhgafopaaDoorW.PrintWords Go.Proofs.YtkggdnnhgafopaaDoor.Kp Go.Proofs.YtkggdnnhgafopaaDoor.Gp
theorem refletter_f (x : Int) : instarref08_letter.f x = some (letR x) := by
  unfold instarref08_letter.f letR
  by_cases h1 : 97 ≤ x <;> by_cases h2 : x ≤ 122 <;> by_cases h3 : 65 ≤ x <;> by_cases h4 : x ≤ 90 <;> simp [h1, h2, h3, h4]
theorem reffig_f (x : Int) : instarref08_figure.f x = some (figR x) := by
  unfold instarref08_figure.f figR
  by_cases h1 : 48 ≤ x <;> by_cases h2 : x ≤ 57 <;> simp [h1, h2]
def runR (name : Bool) (n : Nat) : Bool := if name = true then nameR (n : Int) else figR (n : Int)
theorem drop_at (s : ByteArray) (i : Nat) (h : i < s.size) : ∃ c : UInt8, s.data.toList.drop i = c :: s.data.toList.drop (i + 1) ∧ bt s (i : Int) = (c.toNat : Int) := by
  have hsz : s.data.toList.length = s.size := Array.length_toList
  refine ⟨s.data.toList[i]'(by omega), List.drop_eq_getElem_cons (by omega), ?_⟩
  rw [← bt_at s (i : Int) (by omega)]
  simp [ByteArray.getElem_eq_getElem_data]
theorem wrapN (i : Nat) (h : i ≤ 1000002) : wrap64 ((i : Int) + 1) = ((i + 1 : Nat) : Int) := by unfold wrap64; omega
theorem refrun (s : ByteArray) (hz : s.size ≤ 1000000) (name : Bool) : ∀ (m i K : Nat), i + m = s.size → m < K →
    instarref08_run.l0 K s name (i : Int) = some ((i + runP (runR name) (s.data.toList.drop i) : Nat) : Int) := by
  have hsz : s.data.toList.length = s.size := Array.length_toList
  intro m
  induction m with
  | zero =>
    intro i K hi hK
    obtain ⟨k, rfl⟩ : ∃ k, K = k + 1 := ⟨K - 1, by omega⟩
    rw [instarref08_run.l0, if_neg (by omega), List.drop_eq_nil_of_le (by omega)]
    rfl
  | succ m ih =>
    intro i K hi hK
    obtain ⟨k, rfl⟩ : ∃ k, K = k + 1 := ⟨K - 1, by omega⟩
    obtain ⟨c, hc, hb⟩ := drop_at s i (by omega)
    have step := ih (i + 1) k (by omega) (by omega)
    rw [instarref08_run.l0, if_pos (by omega), if_pos (by omega), hb, refletter_f, bnd, reffig_f, bnd, wrapN i (by omega), step, hc]
    have up : runR name c.toNat = true → (((i + 1 + runP (runR name) (s.data.toList.drop (i + 1)) : Nat)) : Int) = ((i + runP (runR name) (c :: s.data.toList.drop (i + 1)) : Nat) : Int) := by
      intro h
      unfold runP
      rw [List.takeWhile_cons, if_pos h, List.length_cons]
      omega
    have dn : runR name c.toNat = false → (i : Int) = ((i + runP (runR name) (c :: s.data.toList.drop (i + 1)) : Nat) : Int) := by
      intro h
      unfold runP
      rw [List.takeWhile_cons, if_neg (by simp [h])]
      simp
    by_cases hf : figR (c.toNat : Int) = true
    · rw [if_pos hf, up (by cases name <;> simp [runR, nameR, hf])]
    · rw [if_neg hf]
      cases name with
      | false => rw [if_neg (by decide), ← dn (by simp [runR, hf])]
      | true =>
        rw [if_pos rfl]
        by_cases hl : letR (c.toNat : Int) = true
        · rw [if_pos hl, up (by simp [runR, nameR, hl])]
        · rw [if_neg hl]
          by_cases hu : (c.toNat : Int) = 95
          · rw [if_pos hu, up (by simp [runR, nameR, hu])]
          · rw [if_neg hu, ← dn (by simp [runR, nameR, hl, hf, hu])]
theorem refquote (s : ByteArray) (hz : s.size ≤ 1000000) : ∀ (m i K : Nat) (acc : ByteArray), s.size - i ≤ m → i ≤ s.size → m < K → acc.size ≤ i →
    ∃ t n, instarref08_quote.l0 K s acc (i : Int) = some (t, n) ∧ 0 ≤ n ∧ n ≤ (s.size : Int) := by
  intro m
  induction m with
  | zero =>
    intro i K acc h1 h2 h3 h4
    obtain ⟨k, rfl⟩ : ∃ k, K = k + 1 := ⟨K - 1, by omega⟩
    rw [instarref08_quote.l0, if_neg (by omega)]
    exact ⟨_, _, rfl, by omega, by omega⟩
  | succ m ih =>
    intro i K acc h1 h2 h3 h4
    obtain ⟨k, rfl⟩ : ∃ k, K = k + 1 := ⟨K - 1, by omega⟩
    rw [instarref08_quote.l0]
    by_cases hi : i < s.size
    · rw [if_pos (by omega), if_pos (by omega), wrapN i (by omega)]
      by_cases hb : bt s (i : Int) = 39
      · rw [if_pos hb]
        by_cases he : ((i + 1 : Nat) : Int) ≥ (s.size : Int)
        · rw [if_pos he]
          exact ⟨_, _, rfl, by omega, by omega⟩
        · rw [if_neg he, if_pos (by omega), if_pos (by omega)]
          by_cases hc : bt s ((i + 1 : Nat) : Int) = 39
          · rw [if_pos hc, if_pos (by omega), wrapN (i + 1) (by omega)]
            refine ih (i + 1 + 1) k _ (by omega) (by omega) (by omega) ?_
            rw [ByteArray.size_append]
            have : (⟨#[39]⟩ : ByteArray).size = 1 := rfl
            omega
          · rw [if_neg hc]
            exact ⟨_, _, rfl, by omega, by omega⟩
      · have hx : (s.extract ((i : Int)).toNat (((i + 1 : Nat) : Int)).toNat).size = 1 := by
          rw [Int.toNat_natCast, Int.toNat_natCast, ByteArray.size_extract]
          omega
        rw [if_neg hb, if_pos (by omega), if_pos (by omega), if_pos (by omega)]
        refine ih (i + 1) k _ (by omega) (by omega) (by omega) ?_
        rw [ByteArray.size_append]
        omega
    · rw [if_neg (by omega)]
      exact ⟨_, _, rfl, by omega, by omega⟩
theorem refone3 (s : ByteArray) (k : Nat) (b : Bool) (h0 : 0 < s.size) (hb : b = true → 2 ≤ s.size) :
    ∃ r, instarref08_one.j3 (k + 1) s b = some r ∧ 0 ≤ r.2.2.2 ∧ r.2.2.2 ≤ (s.size : Int) ∧ (r.1 = 0 → r.2.2.2 = 0) := by
  rw [instarref08_one.j3]
  have h1 : (0 : Int) < (s.size : Int) := by omega
  have h2 : (1 : Int) ≤ (s.size : Int) := by omega
  cases b with
  | true =>
    have h3 : (2 : Int) ≤ (s.size : Int) := by have := hb rfl; omega
    rw [if_pos rfl, if_pos (by decide), if_pos h3]
    exact ⟨_, rfl, by simp, h3, by simp⟩
  | false =>
    rw [if_neg (by decide), if_pos h1]
    generalize bt s 0 = c
    have good : ∃ r : Int × ByteArray × Int × Int, (if 0 ≤ 1 then (if (1 : Int) ≤ (s.size : Int) then (some ((3 : Int), s.extract 0 1, (0 : Int), (1 : Int))) else (none)) else (none)) = some r ∧ 0 ≤ r.2.2.2 ∧ r.2.2.2 ≤ (s.size : Int) ∧ (r.1 = 0 → r.2.2.2 = 0) := by
      rw [if_pos (by decide), if_pos h2]
      exact ⟨_, rfl, by simp, h2, by simp⟩
    by_cases c0 : c = 40
    · rw [if_pos c0]; exact good
    rw [if_neg c0]
    by_cases c1 : c = 41
    · rw [if_pos c1]; exact good
    rw [if_neg c1]
    by_cases c2 : c = 44
    · rw [if_pos c2]; exact good
    rw [if_neg c2]
    by_cases c3 : c = 61
    · rw [if_pos c3]; exact good
    rw [if_neg c3]
    by_cases c4 : c = 60
    · rw [if_pos c4]; exact good
    rw [if_neg c4]
    by_cases c5 : c = 62
    · rw [if_pos c5]; exact good
    rw [if_neg c5]
    by_cases c6 : c = 43
    · rw [if_pos c6]; exact good
    rw [if_neg c6]
    by_cases c7 : c = 45
    · rw [if_pos c7]; exact good
    rw [if_neg c7]
    by_cases c8 : c = 42
    · rw [if_pos c8]; exact good
    rw [if_neg c8]
    exact ⟨_, rfl, by simp, by simp, by simp⟩
theorem refone2 (s : ByteArray) (hz : s.size ≤ 1000000) (k : Nat) (b : Bool) (h0 : 0 < s.size) (hk : s.size < k) :
    ∃ r, instarref08_one.j2 (k + 1) s b = some r ∧ 0 ≤ r.2.2.2 ∧ r.2.2.2 ≤ (s.size : Int) ∧ (r.1 = 0 → r.2.2.2 = 0) := by
  rw [instarref08_one.j2]
  have h1 : (0 : Int) < (s.size : Int) := by omega
  obtain ⟨j, rfl⟩ : ∃ j, k = j + 1 := ⟨k - 1, by omega⟩
  cases b with
  | true =>
    rw [if_pos rfl]
    exact ⟨_, rfl, by simp, by simp, by simp⟩
  | false =>
    rw [if_neg (by decide), if_pos h1]
    by_cases hq : bt s 0 = 39
    · rw [if_pos hq]
      obtain ⟨t, n, hq1, hq2, hq3⟩ := refquote s hz (s.size - 1) 1 (j + 1) ⟨#[]⟩ (by omega) (by omega) (by omega) (by rw [show (⟨#[]⟩ : ByteArray).size = 0 from rfl]; omega)
      have hq4 : instarref08_quote.f (j + 1) s = some (t, n) := hq1
      rw [hq4, bnd]
      by_cases ht : ((t, n).1.size : Int) > 200
      · rw [if_pos ht]
        exact ⟨_, rfl, by simp, by simp, by simp⟩
      · rw [if_neg ht]
        exact ⟨_, rfl, hq2, hq3, by simp⟩
    · rw [if_neg hq]
      by_cases h2 : (s.size : Int) > 1
      · rw [if_pos h2, if_pos (by decide), if_pos (by omega)]
        split
        · exact refone3 s j _ h0 (by omega)
        · split
          · exact refone3 s j _ h0 (by omega)
          · exact refone3 s j _ h0 (by omega)
      · rw [if_neg h2]
        exact refone3 s j _ h0 (by simp)
theorem refone (s : ByteArray) (hz : s.size ≤ 1000000) (K : Nat) (h0 : 0 < s.size) (hK : s.size + 4 ≤ K) :
    ∃ r, instarref08_one.f K s = some r ∧ 0 ≤ r.2.2.2 ∧ r.2.2.2 ≤ (s.size : Int) ∧ (r.1 = 0 → r.2.2.2 ≠ 0 → nameB0 r.2.1.data.toList = true) ∧
      (nameB0 s.data.toList = true → r = (0, s, 0, (s.size : Int))) := by
  have hsz : s.data.toList.length = s.size := Array.length_toList
  have h1 : (0 : Int) < (s.size : Int) := by omega
  obtain ⟨c, hc, hb⟩ := drop_at s 0 h0
  rw [List.drop_zero] at hc
  have hb0 : bt s 0 = (c.toNat : Int) := hb
  have hr := refrun s hz (letR (c.toNat : Int)) s.size 0 K (by omega) (by omega)
  rw [List.drop_zero, Nat.zero_add] at hr
  have hr' : instarref08_run.f K s (letR (c.toNat : Int)) = some ((runP (runR (letR (c.toNat : Int))) s.data.toList : Nat) : Int) := hr
  have hle := runP_le (runR (letR (c.toNat : Int))) s.data.toList
  obtain ⟨k, rfl⟩ : ∃ k, K = k + 3 := ⟨K - 3, by omega⟩
  have flow : ∀ r : Int × ByteArray × Int × Int, (r.1 = 0 → r.2.2.2 = 0) → (r.1 = 0 → r.2.2.2 ≠ 0 → nameB0 r.2.1.data.toList = true) := fun r h a b => absurd (h a) b
  have nn : letR (c.toNat : Int) = false → nameB0 s.data.toList = true → False := by
    intro h h'
    rw [hc] at h'
    simp [nameB0, h] at h'
  unfold instarref08_one.f
  rw [if_pos h1, hb0, refletter_f, bnd, reffig_f, bnd, hr', bnd]
  generalize hn : runP (runR (letR (c.toNat : Int))) s.data.toList = n at hle
  by_cases hl : letR (c.toNat : Int) = true
  · rw [if_pos hl, instarref08_one.j0]
    rw [hl] at hn
    have hnr : runR true = fun n : Nat => nameR (n : Int) := by funext n; simp [runR]
    rw [hnr] at hn
    by_cases h20 : n ≤ 20
    · rw [if_pos (by simp; omega), if_pos (by omega), if_pos (by omega)]
      refine ⟨_, rfl, by simp, by simp; omega, ?_, ?_⟩
      · intro _ _
        have e : (s.extract 0 ((n : Int)).toNat).data.toList = s.data.toList.takeWhile (fun c => nameR (c.toNat : Int)) := by
          rw [Int.toNat_natCast, Lib.extract_data]
          simp only [List.drop_zero, Nat.sub_zero]
          rw [← hn]
          exact takeWhile_take _ _
        simp only
        rw [e, hc]
        have hcn : nameR (c.toNat : Int) = true := by simp [nameR, hl]
        have e2 : (c :: s.data.toList.drop (0 + 1)).takeWhile (fun c => nameR (c.toNat : Int)) = c :: (s.data.toList.drop (0 + 1)).takeWhile (fun c => nameR (c.toNat : Int)) := by simp [hcn]
        have ha := takeWhile_all (fun c : UInt8 => nameR (c.toNat : Int)) (c :: s.data.toList.drop (0 + 1))
        have hzz : ((c :: s.data.toList.drop (0 + 1)).takeWhile (fun c => nameR (c.toNat : Int))).length ≤ 20 := by
          rw [← hc]
          have : runP (fun n => nameR (n : Int)) s.data.toList = (s.data.toList.takeWhile (fun c => nameR (c.toNat : Int))).length := rfl
          omega
        rw [e2] at ha hzz ⊢
        simp only [nameB0, hl, ha, Bool.true_and]
        exact decide_eq_true hzz
      · intro hN
        have hall : s.data.toList.all (fun c => nameR (c.toNat : Int)) = true := by
          rw [hc] at hN ⊢
          simp only [nameB0, Bool.and_eq_true] at hN
          exact hN.1.2
        have hns : n = s.size := by
          rw [← hn, ← hsz]
          unfold runP
          rw [takeWhile_id _ _ hall]
        subst hns
        have : s.extract 0 ((s.size : Int)).toNat = s := by simp
        rw [this]
    · rw [if_neg (by simp; omega)]
      have hlf : figR (c.toNat : Int) = false := by
        rw [Bool.eq_false_iff]
        intro h
        simp only [letR, figR, Bool.or_eq_true, Bool.and_eq_true, decide_eq_true_eq] at hl h
        omega
      have hN : nameB0 s.data.toList = true → False := by
        intro h
        have hh := h
        rw [hc] at h
        simp only [nameB0, Bool.and_eq_true, decide_eq_true_eq] at h
        rw [← hc] at h
        omega
      rw [if_neg (by rw [hlf]; decide), instarref08_one.j1, if_neg (by decide), if_pos hl]
      obtain ⟨r, r1, r2, r3, r4⟩ := refone2 s hz k true h0 (by omega)
      exact ⟨r, r1, r2, r3, flow r r4, fun h => (hN h).elim⟩
  · have hl' : letR (c.toNat : Int) = false := Bool.eq_false_iff.2 hl
    rw [if_neg hl, instarref08_one.j0, if_neg (by decide)]
    by_cases hf : figR (c.toNat : Int) = true
    · rw [if_pos hf, instarref08_one.j1]
      by_cases h19 : n ≤ 19
      · rw [if_pos (by simp; omega), if_pos (by omega), if_pos (by omega)]
        exact ⟨_, rfl, by simp, by simp; omega, by simp, fun h => (nn hl' h).elim⟩
      · rw [if_neg (by simp; omega), if_neg hl]
        obtain ⟨r, r1, r2, r3, r4⟩ := refone2 s hz k (figR (c.toNat : Int)) h0 (by omega)
        exact ⟨r, r1, r2, r3, flow r r4, fun h => (nn hl' h).elim⟩
    · rw [if_neg hf, instarref08_one.j1, if_neg (by decide), if_neg hl]
      obtain ⟨r, r1, r2, r3, r4⟩ := refone2 s hz k (figR (c.toNat : Int)) h0 (by omega)
      exact ⟨r, r1, r2, r3, flow r r4, fun h => (nn hl' h).elim⟩
end Go.Proofs.YtkggdnnhgafopaaDoor
/-! Plain laws of the document's names: its words, and its Name, which is the program's; no program in sight. -/
set_option linter.unusedVariables false
namespace Go.Proofs.YtkggdnnhgafopaaDoor
open Go.RowKit Go.Lib Go.Shelf Go.Proofs.YtkggdnnhgafopaaDoorW.PrintWords Go.Proofs.YtkggdnnhgafopaaDoor.Kp Go.Proofs.YtkggdnnhgafopaaDoor.Gp
theorem refwords_any (s : ByteArray) (hz : s.size ≤ 1000000) : ∀ (m i : Nat) (acc : List S76) (K : Nat), s.size - i ≤ m → i ≤ s.size → acc.length + m < 4398046511104 → 2 * m + s.size + 8 ≤ K → (∀ w ∈ acc, w.f0 = 0 → nameB0 w.f1.data.toList = true) →
    ∃ l a e, instarref08_Words.l0 K s acc (i : Int) = some (l, a, e) ∧ ∀ w ∈ l, w.f0 = 0 → nameB0 w.f1.data.toList = true := by
  intro m
  induction m with
  | zero =>
    intro i acc K h1 h2 h3 h4 hacc
    obtain ⟨k, rfl⟩ : ∃ k, K = k + 1 := ⟨K - 1, by omega⟩
    rw [instarref08_Words.l0, if_neg (by omega)]
    exact ⟨acc, 0, 0, rfl, hacc⟩
  | succ m ih =>
    intro i acc K h1 h2 h3 h4 hacc
    obtain ⟨k, rfl⟩ : ∃ k, K = k + 2 := ⟨K - 2, by omega⟩
    by_cases hi : i < s.size
    · have sp : ∃ l a e, instarref08_Words.j1 (k + 1) s acc (i : Int) true = some (l, a, e) ∧ ∀ w ∈ l, w.f0 = 0 → nameB0 w.f1.data.toList = true := by
        rw [instarref08_Words.j1, if_pos rfl, wrapN i (by omega)]
        exact ih (i + 1) acc k (by omega) (by omega) (by omega) (by omega) hacc
      have wd : ∃ l a e, instarref08_Words.j1 (k + 1) s acc (i : Int) false = some (l, a, e) ∧ ∀ w ∈ l, w.f0 = 0 → nameB0 w.f1.data.toList = true := by
        have hx : (s.extract ((i : Int)).toNat s.size).size = s.size - i := by simp
        obtain ⟨r, r1, r2, r3, r4, r5⟩ := refone (s.extract ((i : Int)).toNat s.size) (by omega) k (by omega) (by omega)
        rw [instarref08_Words.j1, if_neg (by decide), if_pos (by omega), if_pos (by omega), r1, bnd]
        by_cases h0 : r.2.2.2 = 0
        · rw [if_pos h0]
          exact ⟨[], _, _, rfl, fun w hw => by cases hw⟩
        · rw [if_neg h0, if_pos (by omega)]
          have hw : wrap64 ((i : Int) + r.2.2.2) = ((i + r.2.2.2.toNat : Nat) : Int) := by unfold wrap64; omega
          rw [hw]
          refine ih _ _ k (by omega) (by omega) (by simp; omega) (by omega) ?_
          intro w hw0 hw1
          rcases List.mem_append.1 hw0 with hw2 | hw2
          · exact hacc w hw2 hw1
          · simp only [List.mem_cons, List.not_mem_nil, or_false] at hw2
            subst hw2
            exact r4 hw1 h0
      rw [instarref08_Words.l0, if_pos (by omega), if_pos (by omega)]
      by_cases c1 : bt s (i : Int) = 32
      · rw [if_pos c1]; exact sp
      · rw [if_neg c1]
        by_cases c2 : bt s (i : Int) = 9
        · rw [if_pos c2]; exact sp
        · rw [if_neg c2]
          cases (bt s (i : Int) == 10) with
          | true => exact sp
          | false => exact wd
    · rw [instarref08_Words.l0, if_neg (by omega)]
      exact ⟨acc, 0, 0, rfl, hacc⟩
theorem refwords_name (s : ByteArray) (h : nameB0 s.data.toList = true) (hz : s.size ≤ 1000000) (K : Nat) (hK : s.size + 8 ≤ K) : instarref08_Words.f K s = some ([⟨0, s, 0⟩], 0, 0) := by
  have hsz : s.data.toList.length = s.size := Array.length_toList
  obtain ⟨k, rfl⟩ : ∃ k, K = k + 3 := ⟨K - 3, by omega⟩
  have h0 : 0 < s.size := by
    rcases Nat.eq_zero_or_pos s.size with hc | hc
    · have : s.data.toList = [] := List.eq_nil_of_length_eq_zero (by omega)
      rw [this] at h; cases h
    · exact hc
  obtain ⟨c, hc, hb⟩ := drop_at s 0 h0
  rw [List.drop_zero] at hc
  have hb0 : bt s 0 = (c.toNat : Int) := hb
  have hl : letR (c.toNat : Int) = true := by
    rw [hc] at h
    simp only [nameB0, Bool.and_eq_true] at h
    exact h.1.1
  have hr : 65 ≤ (c.toNat : Int) := by
    simp only [letR, Bool.or_eq_true, Bool.and_eq_true, decide_eq_true_eq] at hl
    omega
  obtain ⟨r, r1, r2, r3, r4, r5⟩ := refone s hz (k + 1) h0 (by omega)
  have hr5 := r5 h
  subst hr5
  have hx : s.extract ((0 : Int)).toNat s.size = s := by simp
  have ha : instarref08_Words.f (k + 3) s = instarref08_Words.l0 (k + 3) s [] 0 := rfl
  have hd : ((c.toNat : Int) == 10) = false := by rw [beq_eq_false_iff_ne]; omega
  rw [ha, instarref08_Words.l0, if_pos (by omega), if_pos (by decide), hb0, if_neg (by omega), if_neg (by omega), hd, instarref08_Words.j1, if_neg (by decide), if_pos (by decide), if_pos (by omega), hx, r1, bnd]
  simp only
  rw [if_neg (by omega), if_pos (by simp), show wrap64 (0 + (s.size : Int)) = (s.size : Int) by unfold wrap64; omega, instarref08_Words.l0, if_neg (by omega)]
  rfl
theorem refname_f (s : ByteArray) (hz : s.size ≤ 1000000) (K : Nat) (hK : 3 * s.size + 8 ≤ K) : instarref12_Name.f K s = some (nameB s) := by
  by_cases h : nameB0 s.data.toList = true
  · unfold instarref12_Name.f
    rw [refwords_name s h hz K (by omega), bnd, refown_f, bnd]
    simp only [List.length_cons, List.length_nil]
    have e : rd_T76 [⟨0, s, 0⟩] 0 = ⟨0, s, 0⟩ := rfl
    rw [if_pos trivial, if_pos (by decide), if_pos (by decide), e, if_pos rfl, if_pos rfl]
    unfold nameB
    rw [h, Bool.true_and]
  · obtain ⟨l, a, e, h1, h2⟩ := refwords_any s hz s.size 0 [] K (by omega) (Nat.zero_le _) (by simp; omega) (by omega) (fun w hw => by cases hw)
    have h1' : instarref08_Words.f K s = some (l, a, e) := h1
    have hn : nameB s = false := by unfold nameB; rw [Bool.eq_false_iff.2 h, Bool.false_and]
    rw [hn]
    unfold instarref12_Name.f
    rw [h1', bnd, refown_f, bnd]
    simp only
    by_cases he : e = 0
    · rw [if_pos he]
      by_cases hl : (l.length : Int) = 1
      · rw [if_pos hl, if_pos (by omega)]
        obtain ⟨x, rfl⟩ : ∃ x, l = [x] := by
          match l, hl with
          | [x], _ => exact ⟨x, rfl⟩
          | [], hl => simp at hl
          | _ :: _ :: _, hl => simp at hl; omega
        have ex : rd_T76 [x] 0 = x := rfl
        rw [ex]
        by_cases hk : x.f0 = 0
        · rw [if_pos hk, if_neg]
          intro ht
          have := h2 x (.head _) hk
          rw [ByteArray.toList_eq, ByteArray.toList_eq] at ht
          rw [ht] at this
          exact h this
        · rw [if_neg hk]
      · rw [if_neg hl]
    · rw [if_neg he]
/-- May a column be, by itself? -/
def kindB (k : Int) : Bool := decide (1 ≤ k) && decide (k ≤ 4)
def columnB (x : S25) : Bool := decide (1 ≤ x.f0) && (nameB x.f1 && kindB x.f2)
theorem refkind_f (k : Int) : instarref03_Column.f k = some (kindB k) := by
  unfold instarref03_Column.f kindB
  split
  · rename_i h; rw [show decide (1 ≤ k) = true from decide_eq_true h, Bool.true_and]
  · rename_i h; rw [show decide (1 ≤ k) = false from decide_eq_false h, Bool.false_and]
theorem vname_f (k : Int) (h : kindB k = true) : ∃ t, value_Name.f k = some t ∧ t.toList ≠ [] := by
  simp only [kindB, Bool.and_eq_true, decide_eq_true_eq] at h
  have hk : k = 1 ∨ k = 2 ∨ k = 3 ∨ k = 4 := by omega
  rcases hk with rfl | rfl | rfl | rfl
  all_goals (exact ⟨_, rfl, by rw [ByteArray.toList_eq]; decide⟩)
theorem vname_bad (k : Int) (h0 : k ≠ 0) (h : kindB k = false) : value_Name.f k = some ⟨#[]⟩ := by
  unfold value_Name.f
  rw [if_neg h0]
  have e : value_column.f k = some false := by
    unfold value_column.f
    simp only [kindB, Bool.and_eq_false_iff, decide_eq_false_iff_not] at h
    split
    · congr 1; exact decide_eq_false (by omega)
    · rfl
  rw [e, bnd, if_neg (by decide)]
theorem kind_f (k : Int) : schema_kind.f k = some (kindB k) := by
  unfold schema_kind.f
  by_cases h0 : k = 0
  · subst h0; rfl
  · rw [if_neg h0]
    cases h : kindB k with
    | true =>
      obtain ⟨t, h1, h2⟩ := vname_f k h
      rw [h1, bnd]
      congr 1
      exact bne_iff_ne.2 h2
    | false =>
      rw [vname_bad k h0 h, bnd]
      congr 1
      rw [ByteArray.toList_eq]
      rfl
theorem column_f (x : S25) (hz : x.f1.size ≤ 1000000) (K : Nat) (hK : 1000010 ≤ K) : schema_column.f K x.f0 x.f1 x.f2 = some (columnB x) := by
  unfold schema_column.f columnB
  by_cases h : x.f0 > 0
  · rw [if_pos h, name_f _ hz K hK, bnd, show decide (1 ≤ x.f0) = true from decide_eq_true (by omega), Bool.true_and]
    cases hn : nameB x.f1 with
    | true => rw [if_pos rfl, kind_f, bnd, Bool.true_and]
    | false => rw [if_neg (by decide), Bool.false_and]
  · rw [if_neg h, show decide (1 ≤ x.f0) = false from decide_eq_false (by omega), Bool.false_and]
theorem refcolumn_f (x : S25) (hz : x.f1.size ≤ 1000000) (K : Nat) (hK : 3000010 ≤ K) : instarref12_column.f K x.f0 x.f1 x.f2 = some (columnB x) := by
  unfold instarref12_column.f columnB
  rw [refname_f _ hz K (by omega), bnd, refkind_f, bnd]
  cases hn : nameB x.f1 with
  | true =>
    rw [if_pos rfl]
    cases hk : kindB x.f2 with
    | true => rw [if_pos rfl, Bool.true_and, Bool.and_true]
    | false => rw [if_neg (by decide), Bool.and_false, Bool.and_false]
  | false => rw [if_neg (by decide), Bool.false_and, Bool.and_false]
end Go.Proofs.YtkggdnnhgafopaaDoor
