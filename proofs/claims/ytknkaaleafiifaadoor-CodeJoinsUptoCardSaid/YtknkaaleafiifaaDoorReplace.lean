/- strings.ReplaceAll at one byte and two bytes for it: each byte 0 becomes 0 and 255; of a text shorter than 2^31 bytes. -/
import Derived.Test.YtknkaaleafiifaaDoorBuilder
import Derived.Test.YtknkaaleafiifaaDoorShelf
import Derived.Lib.IndexLaws
namespace Go.Proofs.YtknkaaleafiifaaDoor
open Go.RowKit

/-- A byte 0 of a text as 0 and 255. -/
def esc : List UInt8 → List UInt8
  | [] => []
  | c :: l => if c = 0 then 0 :: 255 :: esc l else c :: esc l
theorem esc_append (a b : List UInt8) : esc (a ++ b) = esc a ++ esc b := by
  induction a with
  | nil => rfl
  | cons c a ih =>
    simp only [List.cons_append, esc]
    split <;> simp [ih]
theorem esc_none (l : List UInt8) (h : ∀ c ∈ l, c ≠ 0) : esc l = l := by
  induction l with
  | nil => rfl
  | cons c l ih => simp [esc, h c (.head _), ih (fun d hd => h d (.tail _ hd))]
theorem esc_length (l : List UInt8) : (esc l).length = l.length + l.count 0 := by
  induction l with
  | nil => rfl
  | cons c l ih =>
    simp only [esc]
    by_cases h : c = 0
    · subst h; simp [ih]; omega
    · rw [if_neg h]; simp [ih, h]; omega

/-- Where the next 0 lies. -/
theorem next_zero (l : List UInt8) (h : 0 < l.count 0) : ∃ p : Nat, Lib.indexByte l 0 = p ∧ p < l.length ∧ esc (l.take p) = l.take p ∧ (l.take (p + 1)).count 0 = 1 ∧ l.take (p + 1) = l.take p ++ [0] := by
  induction l with
  | nil => simp at h
  | cons c l ih =>
    by_cases hc : c = 0
    · subst hc
      exact ⟨0, by simp [Lib.indexByte], by simp, rfl, by simp, by simp⟩
    · have h' : 0 < l.count 0 := by rw [List.count_cons_of_ne hc] at h; exact h
      obtain ⟨p, h1, h2, h3, h4, h5⟩ := ih h'
      refine ⟨p + 1, ?_, by simp; omega, ?_, ?_, ?_⟩
      · simp [Lib.indexByte, hc, h1]
      · simp [List.take_succ_cons, esc, hc, h3]
      · rw [List.take_succ_cons, List.count_cons, h4]; simp [hc]
      · rw [List.take_succ_cons, h5, List.take_succ_cons]; rfl

def zeroB : ByteArray := ⟨#[0]⟩
def zeroFF : ByteArray := ⟨#[0, 255]⟩

set_option maxRecDepth 100000 in
set_option maxHeartbeats 4000000 in
theorem replace_none (s : ByteArray) (w : World) (h : s.data.toList.count 0 = 0) :
    Calls Tryd.prog 35 #[.string s, .string ⟨#[0]⟩, .string ⟨#[0, 255]⟩, .int .i64 (-1)] w fun e w' => e = .returned (.string s) ∧ Below w.heap.size w w' := by
  have hc : (Lib.countByte s.data.toList 0 : Int) = 0 := by unfold Lib.countByte; omega
  have HC := Lib.hid hc
  clear hc h
  go_enter Tryd.func35, Tryd.ntmps35
  go_wp2_with fail
  refine (Tryd.strings_Count_one s 0 _).mono ?_
  rintro e w' ⟨rfl, rfl⟩
  rw [HC.out]
  go_wp2_with fail
  go_ret
  exact ⟨rfl, by go_grown⟩

set_option maxRecDepth 100000 in
set_option maxHeartbeats 4000000 in
theorem replace_some (s : ByteArray) (w : World) (h : 0 < s.data.toList.count 0) (hs : s.size ≤ 2147483648) :
    Calls Tryd.prog 35 #[.string s, .string ⟨#[0]⟩, .string ⟨#[0, 255]⟩, .int .i64 (-1)] w fun e w' => e = .returned (.string ⟨(esc s.data.toList).toArray⟩) ∧ Below w.heap.size w w' := by
  have hle : s.data.toList.count 0 ≤ s.size := by
    have := List.count_le_length (a := (0 : UInt8)) (l := s.data.toList)
    rw [Array.length_toList] at this
    exact this
  obtain ⟨m, hm⟩ : ∃ m : Nat, Lib.countByte s.data.toList 0 = m := ⟨_, rfl⟩
  have hm1 : s.data.toList.count 0 = m := hm
  have HM := Lib.hid hm
  have HM1 := Lib.hid hm1
  rw [hm1] at h hle
  clear hm hm1
  have h1 : ((m : Int) == 0) = false := by simp; omega
  go_enter Tryd.func35, Tryd.ntmps35
  go_wp2_with fail
  refine (Tryd.strings_Count_one s 0 _).mono ?_
  rintro e w' ⟨rfl, rfl⟩
  rw [HM.out]
  go_wp2_with fail
  rw [show ((s.size : Int) + (m : Int)) = ((s.size + m : Nat) : Int) from by push_cast; rfl]
  refine (Tryd.Builder_Grow_fresh w'.heap.size w'.heap.size (s.size + m) _ (Nat.le_refl _) (heap_alloc_new w' _) (by simp) (by omega)).mono ?_
  rintro e w1 ⟨rfl, hB1, hb1⟩
  have hA0 := Lib.BuilderAtF.of hB1
  clear hB1
  have hb0 : Below w'.heap.size w' w1 := ((Below.refl _ _).alloc (Nat.le_refl _) _).trans hb1
  clear hb1
  go_wp2_with fail
  go_loopw [11, 53] (fun v11 v53 wr => ∃ i st : Nat, i ≤ m ∧ st ≤ s.size ∧ v11 = .int .i64 st ∧ v53 = .int .i64 i ∧ Hid ((s.data.toList.take st).count 0 = i) ∧
      Hid (Lib.BuilderAtF 43 5 w'.heap.size w'.heap.size (.pointer (some ⟨w'.heap.size, 0, none⟩)) (Lib.byteCells (esc (s.data.toList.take st))) wr) ∧ Hid (Below w'.heap.size w' wr)) (fun _ i _ => m - (intOf i).toNat)
  case atStart => exact ⟨0, 0, Nat.zero_le _, Nat.zero_le _, rfl, rfl, by simp [Hid], hA0, hb0⟩
  case round =>
    obtain ⟨i, st, hi, hst, rfl, rfl, hcnt, hA, hb⟩ := hrel
    by_cases hlt : i < m
    · obtain ⟨p, n1, n2, n3, n4, n5⟩ := next_zero (s.data.toList.drop st) (by
        have := List.take_append_drop st s.data.toList
        have h3 : (s.data.toList.take st ++ s.data.toList.drop st).count 0 = m := by rw [this]; exact HM1.out
        rw [List.count_append, hcnt.out] at h3
        omega)
      have hp : st + p + 1 ≤ s.size := by
        rw [List.length_drop, Array.length_toList] at n2
        have : s.data.size = s.size := rfl
        omega
      have N1 := Lib.hid n1
      have N3 := Lib.hid n3
      have N4 := Lib.hid n4
      have N5 := Lib.hid n5
      clear n1 n2 n3 n4 n5
      have E1 := Lib.hid (show s.data.toList.take (st + p + 1) = s.data.toList.take st ++ ((s.data.toList.drop st).take p ++ [0]) by
        rw [show st + p + 1 = st + (p + 1) by omega, List.take_add, N5.out])
      have L1 := Lib.hid (show (esc (s.data.toList.take st)).length ≤ 2 * s.size by
        rw [esc_length]
        have h2 := List.count_le_length (a := (0 : UInt8)) (l := s.data.toList.take st)
        have h3 : (s.data.toList.take st).length ≤ s.size := Nat.le_trans (List.length_take_le _ _) (by omega)
        omega)
      go_wp2_with fail
      refine (Tryd.strings_Index_one (s.extract st s.size) 0 _).mono ?_
      rintro e wr ⟨rfl, rfl⟩
      rw [Lib.extract_to_end, N1.out]
      go_wp2_with fail
      refine (Bd.writeString w'.heap.size w'.heap.size (Lib.byteCells (esc (s.data.toList.take st))) (s.extract st (st + p)) _ (.inr hA.out) ?hl ?hB).mono ?_
      case hl => have := L1.out; rw [Lib.byteCells_length]; simp only [ByteArray.size_extract]; omega
      case hB => exact hb.out.size
      rintro e w2 ⟨rfl, hA2, hb2, _⟩
      have HA2 := Lib.hid hA2
      have HB2 := Lib.hid hb2
      clear hA2 hb2
      go_wp2_with fail
      refine (Bd.writeString w'.heap.size w'.heap.size _ ⟨#[0, 255]⟩ _ (.inr HA2.out) ?hl ?hB).mono ?_
      case hl =>
        have := L1.out
        rw [List.length_append, Lib.byteCells_length, Lib.strCells_length]
        simp only [ByteArray.size_extract]
        have h4 : (⟨#[0, 255]⟩ : ByteArray).size = 2 := rfl
        omega
      case hB => have h5 := hb.out.size; have h6 := HB2.out.size; omega
      rintro e w3 ⟨rfl, hA3, hb3, _⟩
      have HA3 := Lib.hid hA3
      have HB3 := Lib.hid hb3
      clear hA3 hb3
      go_wp2_with fail
      go_roundw
      case measure => simp [intOf]; omega
      case rel =>
        refine ⟨i + 1, st + p + 1, by omega, by omega, by go_num, by go_num, ?_, ?_, ?_⟩
        · show _ = _
          have h7 := N4.out
          rw [N5.out] at h7
          rw [E1.out, List.count_append, hcnt.out, h7]
        · show Lib.BuilderAtF _ _ _ _ _ _ _
          have h8 := HA3.out
          have h9 : Lib.byteCells (esc (s.data.toList.take (st + p + 1))) = Lib.byteCells (esc (s.data.toList.take st)) ++ Lib.strCells (s.extract st (st + p)) ++ Lib.strCells ⟨#[0, 255]⟩ := by
            rw [E1.out, esc_append, esc_append, N3.out, Lib.byteCells_append, Lib.byteCells_append, Lib.strCells_eq, Lib.extract_data, show st + p - st = p by omega, List.append_assoc]
            rfl
          rw [h9]; exact h8
        · exact (hb.out.trans HB2.out).trans HB3.out
    · have hi' : i = m := by omega
      have hc0 : (s.data.toList.drop st).count 0 = 0 := by
        have h3 : (s.data.toList.take st ++ s.data.toList.drop st).count 0 = m := by rw [List.take_append_drop]; exact HM1.out
        rw [List.count_append, hcnt.out] at h3
        omega
      have HC0 := Lib.hid hc0
      subst hi'
      have L1 := Lib.hid (show (esc (s.data.toList.take st)).length ≤ 2 * s.size by
        rw [esc_length]
        have h2 := List.count_le_length (a := (0 : UInt8)) (l := s.data.toList.take st)
        have h3 : (s.data.toList.take st).length ≤ s.size := Nat.le_trans (List.length_take_le _ _) (by omega)
        omega)
      clear hc0
      go_wp2_with fail
      refine (Bd.writeString w'.heap.size w'.heap.size (Lib.byteCells (esc (s.data.toList.take st))) (s.extract st s.size) _ (.inr hA.out) ?hl ?hB).mono ?_
      case hl => have := L1.out; rw [Lib.byteCells_length]; simp only [ByteArray.size_extract]; omega
      case hB => exact hb.out.size
      rintro e w2 ⟨rfl, hA2, hb2, _⟩
      have h9 : Lib.byteCells (esc (s.data.toList.take st)) ++ Lib.strCells (s.extract st s.size) = Lib.byteCells (esc s.data.toList) := by
        have h10 : esc (s.data.toList.drop st) = s.data.toList.drop st := esc_none _ (fun c hc e => by
          subst e
          have := List.count_pos_iff.2 hc
          have := HC0.out
          omega)
        rw [Lib.strCells_eq, Lib.extract_to_end, ← Lib.byteCells_append]
        conv => rhs; rw [← List.take_append_drop st s.data.toList, esc_append, h10]
      rw [h9] at hA2
      have HA2 := Lib.hid hA2
      have HB2 := Lib.hid hb2
      clear hA2 hb2 h9
      go_wp2_with fail
      refine (Tryd.Builder_String_any_f w'.heap.size w'.heap.size (esc s.data.toList) _ (.inr HA2.out) ?hB).mono ?_
      case hB => have h5 := hb.out.size; have h6 := HB2.out.size; omega
      rintro e w3 ⟨rfl, _, hb3⟩
      have HB3 := Lib.hid hb3
      clear hb3
      go_wp2_with fail
      go_ret
      exact ⟨rfl, (hb.out.trans HB2.out).trans HB3.out⟩

theorem replaceAll (s : ByteArray) (w : World) (hs : s.size ≤ 2147483648) :
    Calls Tryd.prog 27 #[.string s, .string ⟨#[0]⟩, .string ⟨#[0, 255]⟩] w fun e w' => e = .returned (.string ⟨(esc s.data.toList).toArray⟩) ∧ Below w.heap.size w w' := by
  have hc : Calls Tryd.prog 35 #[.string s, .string ⟨#[0]⟩, .string ⟨#[0, 255]⟩, .int .i64 (-1)] w fun e w' => e = .returned (.string ⟨(esc s.data.toList).toArray⟩) ∧ Below w.heap.size w w' := by
    rcases Nat.eq_zero_or_pos (s.data.toList.count 0) with h | h
    · refine (replace_none s w h).mono ?_
      rintro e w' ⟨rfl, hb⟩
      refine ⟨?_, hb⟩
      rw [esc_none _ (fun c hc e => by
        subst e
        have := List.count_pos_iff.2 hc
        omega)]
    · exact replace_some s w h hs
  have HC := Lib.hid hc
  clear hc
  go_enter Tryd.func27, Tryd.ntmps27
  go_wp2_with fail
  refine HC.out.mono ?_
  rintro e w' ⟨rfl, hb⟩
  go_wp2_with fail
  go_ret
  exact ⟨rfl, hb⟩
end Go.Proofs.YtknkaaleafiifaaDoor
