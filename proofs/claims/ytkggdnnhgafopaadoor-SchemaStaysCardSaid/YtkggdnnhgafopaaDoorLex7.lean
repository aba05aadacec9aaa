/- What lex reads of a text, part seven: blanks are skipped; the word that comes: the contracts that its callers are printed over. -/
import Derived.Test.YtkggdnnhgafopaaDoorLex6
set_option linter.unusedVariables false
namespace Go.Proofs.YtkggdnnhgafopaaDoor
open Go.RowKit Go.Lib Go.Shelf Go.Proofs.YtkggdnnhgafopaaDoorW.PrintWords
set_option maxRecDepth 100000 in
theorem setZero (w : World) : (zeroValue 97).run Tryd.prog w = .ok (.agg (Array.replicate 256 (.bool false))) w := by
  kernel_rfl
theorem setInfo : (Tryd.prog.info? 97).map (·.size) = some 256 := by kernel_rfl
/-- Blanks are skipped. -/
def strings_TrimLeft.f (a0 a1 : ByteArray) : Option ByteArray := if a1.data.toList = [32, 9, 10] then some ⟨(Lib.trimLeftS a0.data.toList [32, 9, 10]).toArray⟩ else none
theorem strings_TrimLeft.calls (a0 a1 : ByteArray) (r : ByteArray) (w : World) (h : strings_TrimLeft.f a0 a1 = some r) :
    Calls Tryd.prog 57 #[.string a0, .string a1] w fun e w' => e = .returned (.string r) ∧ Below w.heap.size w w' := by
  unfold strings_TrimLeft.f at h
  by_cases h1 : a1.data.toList = [32, 9, 10]
  · rw [if_pos h1] at h
    cases h
    have hz : a1.size = 3 := by
      have := congrArg List.length h1
      rw [Array.length_toList] at this
      exact this
    refine (Any.strings_TrimLeft_ascii Tryd.lays161 setZero setInfo a0 a1 w (by omega) (fun j b hb => ?_)).mono fun e w' hh => ?_
    · have hm : b ∈ a1.data.toList := List.mem_of_getElem? hb
      rw [h1] at hm
      simp at hm
      rcases hm with rfl | rfl | rfl <;> decide
    · rw [h1] at hh; exact hh
  · rw [if_neg h1] at h; cases h

/-- The mark that comes. -/
def markW (s : ByteArray) : Int × ByteArray × Int × Int := if markI s.data.toList = -1 then (0, ⟨#[]⟩, 0, 0) else (3, marksB[(markI s.data.toList).toNat]!, 0, (marksB[(markI s.data.toList).toNat]!.size : Int))
/-- The word that comes, and how many bytes it has. -/
def oneW (s : ByteArray) : Int × ByteArray × Int × Int :=
  match s.data.toList with
  | [] => (0, ⟨#[]⟩, 0, 0)
  | c :: _ =>
    if letR (c.toNat : Int) = true then (if lenB (fun n => nameR n) s ≤ 20 then (0, s.extract 0 (lenB (fun n => nameR n) s).toNat, 0, lenB (fun n => nameR n) s) else (0, ⟨#[]⟩, 0, 0))
    else if figR (c.toNat : Int) = true then (if lenB (fun n => figR n) s ≤ 19 then (1, s.extract 0 (lenB (fun n => figR n) s).toNat, 0, lenB (fun n => figR n) s) else (0, ⟨#[]⟩, 0, 0))
    else if c = 39 then (match lex_quoted.f s with | some (t, n) => if (t.size : Int) ≤ 200 then (2, t, 0, n) else markW s | none => (0, ⟨#[]⟩, 0, 0))
    else markW s
def lex_one.f (a0 : ByteArray) : Option (Int × ByteArray × Int × Int) := if 1 ≤ a0.size ∧ a0.size ≤ 1000000 then some (oneW a0) else none
theorem lenB_range (p : Nat → Bool) (s : ByteArray) : 0 ≤ lenB p s ∧ lenB p s ≤ s.size := by
  unfold lenB
  rcases Lib.idxFunc_range (fun n => !p n) true s with h | ⟨h1, h2⟩
  · rw [h]; simp
  · rw [if_pos h1]; omega
theorem lex_one.calls (a0 : ByteArray) (r1 : Int) (r2 : ByteArray) (r3 : Int) (r4 : Int) (w : World) (h : lex_one.f a0 = some (r1, r2, r3, r4)) :
    Calls Tryd.prog 58 #[.string a0] w fun e w' => e = .returned (.tuple #[.agg #[.int .i64 r1, .string r2, .int .i64 r3], .int .i64 r4]) ∧ Below w.heap.size w w' := by
  unfold lex_one.f at h
  by_cases hs : 1 ≤ a0.size ∧ a0.size ≤ 1000000
  · rw [if_pos hs] at h
    have h2 := Option.some.inj h
    clear h
    obtain ⟨hs1, hs2⟩ := hs
    cases hl : a0.data.toList with
    | nil =>
      exfalso
      have := congrArg List.length hl
      rw [Array.length_toList] at this
      have e : a0.data.size = a0.size := rfl
      simp only [List.length_nil] at this
      omega
    | cons c r =>
      have fin : ∀ k t n, (k, t, (0 : Int), n) = (r1, r2, r3, r4) → Calls Tryd.prog 58 #[.string a0] w (OnePost k t n w) →
          Calls Tryd.prog 58 #[.string a0] w fun e w' => e = .returned (.tuple #[.agg #[.int .i64 r1, .string r2, .int .i64 r3], .int .i64 r4]) ∧ Below w.heap.size w w' := by
        intro k t n he hc
        cases he
        exact hc
      obtain ⟨q0, q1⟩ := lenB_range (fun n => nameR n) a0
      obtain ⟨p0, p1⟩ := lenB_range (fun n => figR n) a0
      have mk : ∀ (hc : letR (c.toNat : Int) = false) (hf : figR (c.toNat : Int) = false), ¬ c = 39 → markW a0 = (r1, r2, r3, r4) → Calls Tryd.prog 58 #[.string a0] w fun e w' => e = .returned (.tuple #[.agg #[.int .i64 r1, .string r2, .int .i64 r3], .int .i64 r4]) ∧ Below w.heap.size w w' := by
        intro hc hf hq he
        unfold markW at he
        rcases markI_cases a0.data.toList with hm | ⟨j, hj, hm, _⟩
        · rw [if_pos hm] at he
          exact fin _ _ _ he (one_mark_none a0 c r hl hs2 hc hf hq hm w)
        · rw [if_neg (by omega), hm, Int.toNat_natCast] at he
          exact fin _ _ _ he (one_mark_some a0 c r hl hs2 hc hf hq j hj hm w)
      have lt : ∀ (hc : letR (c.toNat : Int) = false) (hf : figR (c.toNat : Int) = false) (hq : c = 39) t n (ht : lex_quoted.f a0 = some (t, n)) (h200 : ¬ (t.size : Int) ≤ 200), markW a0 = (r1, r2, r3, r4) → Calls Tryd.prog 58 #[.string a0] w fun e w' => e = .returned (.tuple #[.agg #[.int .i64 r1, .string r2, .int .i64 r3], .int .i64 r4]) ∧ Below w.heap.size w w' := by
        intro hc hf hq t n ht h200 he
        unfold markW at he
        rcases markI_cases a0.data.toList with hm | ⟨j, hj, hm, _⟩
        · rw [if_pos hm] at he
          exact fin _ _ _ he (one_late_none a0 c r hl hs2 hc hf hq t n ht h200 hm w)
        · rw [if_neg (by omega), hm, Int.toNat_natCast] at he
          exact fin _ _ _ he (one_late_some a0 c r hl hs2 hc hf hq t n ht h200 j hj hm w)
      unfold oneW at h2
      rw [hl] at h2
      simp only at h2
      by_cases hc : letR (c.toNat : Int) = true
      · rw [if_pos hc] at h2
        by_cases h20 : lenB (fun n => nameR n) a0 ≤ 20
        · rw [if_pos h20] at h2
          exact fin _ _ _ h2 (one_name a0 c r hl hs2 hc _ rfl q0 q1 h20 w)
        · rw [if_neg h20] at h2
          exact fin _ _ _ h2 (one_name_long a0 c r hl hs2 hc _ rfl q0 q1 h20 w)
      · rw [if_neg hc] at h2
        have hc' := Bool.eq_false_iff.2 hc
        by_cases hf : figR (c.toNat : Int) = true
        · rw [if_pos hf] at h2
          by_cases h20 : lenB (fun n => figR n) a0 ≤ 19
          · rw [if_pos h20] at h2
            exact fin _ _ _ h2 (one_fig a0 c r hl hs2 hc' hf _ rfl p0 p1 h20 w)
          · rw [if_neg h20] at h2
            exact fin _ _ _ h2 (one_fig_long a0 c r hl hs2 hc' hf _ rfl p0 p1 h20 w)
        · rw [if_neg hf] at h2
          have hf' := Bool.eq_false_iff.2 hf
          by_cases hq : c = 39
          · rw [if_pos hq] at h2
            cases ht : lex_quoted.f a0 with
            | none =>
              exfalso
              unfold lex_quoted.f at ht
              rw [if_pos ⟨hs1, by omega⟩] at ht
              cases ht
            | some x =>
              obtain ⟨t, n⟩ := x
              rw [ht] at h2
              simp only at h2
              by_cases h200 : (t.size : Int) ≤ 200
              · rw [if_pos h200] at h2
                exact fin _ _ _ h2 (one_quote a0 c r hl hs2 hc' hf' hq t n ht h200 w)
              · rw [if_neg h200] at h2
                exact lt hc' hf' hq t n ht h200 h2
          · rw [if_neg hq] at h2
            exact mk hc' hf' hq h2
  · rw [if_neg hs] at h; cases h
end Go.Proofs.YtkggdnnhgafopaaDoor
