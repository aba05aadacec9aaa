/- A text out of its bytes: what code.text comes to; of at most 2^40 bytes. -/
import Derived.Test.YtknkaaleafiifaaDoorEncode
set_option linter.unusedVariables false
namespace Go.Proofs.YtknkaaleafiifaaDoor
open Go.RowKit

/-- The text that comes, and how many bytes it has. -/
def textL : List UInt8 → Option (List UInt8 × Nat)
  | [] => none
  | [_] => none
  | c :: d :: l => if c = 0 then (if d = 0 then some ([], 2) else if d = 255 then (textL l).map (fun x => (0 :: x.1, x.2 + 2)) else none)
    else (textL (d :: l)).map (fun x => (c :: x.1, x.2 + 1))
theorem textL_other (c : UInt8) (l : List UInt8) (h : c ≠ 0) : textL (c :: l) = (textL l).map (fun x => (c :: x.1, x.2 + 1)) := by
  cases l with
  | nil => rfl
  | cons d l => simp [textL, h]
def code_text.f (s : ByteArray) : Option (ByteArray × Int) :=
  if s.size ≤ 1099511627776 then some (match textL s.data.toList with | some x => (⟨x.1.toArray⟩, (x.2 : Int)) | none => (⟨#[]⟩, -1)) else none

def pre (a : List UInt8) (m : Nat) (o : Option (List UInt8 × Nat)) : Option (List UInt8 × Nat) := o.map fun x => (a ++ x.1, m + x.2)
theorem pre_pre (a b : List UInt8) (m n : Nat) (o : Option (List UInt8 × Nat)) : pre a m (pre b n o) = pre (a ++ b) (m + n) o := by
  cases o <;> simp [pre, Nat.add_assoc]
theorem textL_skip (l : List UInt8) : (Lib.indexByte l 0 = -1 → textL l = none) ∧ ∀ n : Nat, Lib.indexByte l 0 = n → n < l.length ∧ textL l = pre (l.take n) n (textL (l.drop n)) ∧ ∃ r, l.drop n = 0 :: r := by
  induction l with
  | nil => exact ⟨fun _ => rfl, fun n h => by simp [Lib.indexByte] at h⟩
  | cons c l ih =>
    by_cases hc : c = 0
    · subst hc
      refine ⟨fun h => by simp [Lib.indexByte] at h, fun n h => ?_⟩
      have hn : n = 0 := by simp [Lib.indexByte] at h; omega
      subst hn
      refine ⟨by simp, ?_, l, rfl⟩
      simp only [List.take_zero, List.drop_zero]
      cases textL (0 :: l) <;> simp [pre]
    · have hi : Lib.indexByte (c :: l) 0 = if Lib.indexByte l 0 == -1 then -1 else Lib.indexByte l 0 + 1 := by simp [Lib.indexByte, hc]
      have hg := Lib.indexByte_ge l 0
      have ht : textL (c :: l) = pre [c] 1 (textL l) := by
        rw [textL_other c l hc]
        cases textL l <;> simp [pre, Nat.add_comm]
      constructor
      · intro h
        rw [hi] at h
        by_cases k : Lib.indexByte l 0 = -1
        · rw [ht, ih.1 k]; rfl
        · rw [if_neg (by simpa using k)] at h; omega
      · intro n h
        rw [hi] at h
        by_cases k : Lib.indexByte l 0 = -1
        · rw [if_pos (by simpa using k)] at h; omega
        · rw [if_neg (by simpa using k)] at h
          obtain ⟨m, rfl⟩ : ∃ m, n = m + 1 := ⟨n - 1, by omega⟩
          obtain ⟨h1, h2, h3⟩ := ih.2 m (by omega)
          refine ⟨by simp; omega, ?_, ?_⟩
          · rw [ht, h2, pre_pre]
            simp only [List.take_succ_cons, List.drop_succ_cons, List.cons_append, List.nil_append]
            rw [Nat.add_comm 1 m]
          · simpa using h3

theorem prefix2 (r : List UInt8) (x : UInt8) : Lib.hasPrefix (0 :: r) [0, x] = decide (r.head? = some x) := by
  cases r with
  | nil => rfl
  | cons d r =>
    have e : Lib.hasPrefix (0 :: d :: r) [0, x] = (x == d) := by simp [Lib.hasPrefix, List.isPrefixOf]
    rw [e]
    by_cases h : x = d
    · subst h; simp
    · have h2 : ¬ (d = x) := fun k => h k.symm
      rw [beq_eq_false_iff_ne.2 h]
      simp [h2]

set_option maxRecDepth 100000 in
set_option maxHeartbeats 8000000 in
theorem code_text.calls (a0 : ByteArray) (r1 : ByteArray) (r2 : Int) (w : World) (h : code_text.f a0 = some (r1, r2)) :
    Calls Tryd.prog 32 #[.string a0] w fun e w' => e = .returned (.tuple #[.string r1, .int .i64 r2]) ∧ Below w.heap.size w w' := by
  unfold code_text.f at h
  by_cases hs : a0.size ≤ 1099511627776
  · rw [if_pos hs] at h
    have HH := Lib.hid (Option.some.inj h)
    clear h
    go_enter Tryd.func32, Tryd.ntmps32
    go_wp2_with fail
    go_loopw [5] (fun v5 wr => ∃ (i : Nat) (acc : List UInt8), i ≤ a0.size ∧ v5 = .int .i64 i ∧ acc.length ≤ i ∧ Hid (textL a0.data.toList = pre acc i (textL (a0.data.toList.drop i))) ∧ Hid (Lib.IsBuilderF 43 5 w.heap.size w.heap.size (Lib.byteCells acc) wr) ∧ Hid (Below w.heap.size w wr)) (fun v5 _ => a0.size - (intOf v5).toNat)
    case atStart =>
      refine ⟨0, [], Nat.zero_le _, rfl, Nat.le_refl _, ?_, ?_, ?_⟩
      · show _ = _
        simp only [List.drop_zero]
        cases textL a0.data.toList <;> simp [pre]
      · show Lib.IsBuilderF _ _ _ _ _ _
        exact .inl (Lib.BuilderAtF.of ⟨Nat.le_refl _, _, heap_alloc_new w _, Go.Proofs.YtknkaaleafiifaaDoorW.PrintWords.own_nil _ _ _ _, by simp [Value.ownBlock]⟩)
      · exact (Below.refl _ _).alloc (Nat.le_refl _) _
    case round =>
      obtain ⟨i, acc, hi, rfl, hacc, hT, hb, hB⟩ := hrel
      have hix : (a0.extract i a0.size).data.toList = a0.data.toList.drop i := Lib.extract_to_end a0 i
      have hld : (a0.data.toList.drop i).length = a0.size - i := by rw [List.length_drop, Array.length_toList]; rfl
      obtain ⟨k1, k2⟩ := textL_skip (a0.data.toList.drop i)
      have HIX := Lib.hid hix
      have K1 := Lib.hid k1
      have K2 := Lib.hid k2
      have HLD := Lib.hid hld
      clear hix k1 k2 hld
      by_cases hn : Lib.indexByte (a0.data.toList.drop i) 0 = -1
      · have HN := Lib.hid hn
        have hf := hT.out
        rw [K1.out hn] at hf
        have h9 := HH.out
        rw [hf] at h9
        simp only [pre, Option.map_none, Prod.mk.injEq] at h9
        obtain ⟨rfl, rfl⟩ := h9
        clear hn hf
        go_wp2_with fail
        refine (Tryd.strings_IndexByte (a0.extract i a0.size) 0 _).mono ?_
        rintro e wr' ⟨rfl, rfl⟩
        rw [show ((0 : Int).toNat.toUInt8) = 0 from rfl, HIX.out, HN.out]
        go_wp2_with fail
        go_ret2
        exact ⟨rfl, hB.out⟩
      · have hg := Lib.indexByte_ge (a0.data.toList.drop i) 0
        obtain ⟨n, hn'⟩ : ∃ n : Nat, Lib.indexByte (a0.data.toList.drop i) 0 = n := ⟨(Lib.indexByte (a0.data.toList.drop i) 0).toNat, by omega⟩
        obtain ⟨n1, n2, r, n3⟩ := K2.out n hn'
        rw [HLD.out] at n1
        have HN := Lib.hid hn'
        have N2 := Lib.hid n2
        have hdr : a0.data.toList.drop (i + n) = 0 :: r := by rw [← List.drop_drop]; exact n3
        have HDR := Lib.hid hdr
        have hT2 : textL a0.data.toList = pre (acc ++ (a0.data.toList.drop i).take n) (i + n) (textL (0 :: r)) := by
          rw [hT.out, n2, pre_pre, n3]
        have HT2 := Lib.hid hT2
        have htl : ((a0.data.toList.drop i).take n).length = n := by rw [List.length_take, HLD.out]; omega
        have HTL := Lib.hid htl
        have hex : Lib.byteCells acc ++ Lib.strCells (a0.extract i (i + n)) = Lib.byteCells (acc ++ (a0.data.toList.drop i).take n) := by
          rw [Lib.byteCells_append, Lib.strCells_eq, Lib.extract_data, show i + n - i = n by omega]
        have HEX := Lib.hid hex
        have hpx : (a0.extract (i + n) a0.size).data.toList = 0 :: r := by rw [Lib.extract_to_end]; exact hdr
        have HPX := Lib.hid hpx
        have hrl : r.length + 1 = a0.size - (i + n) := by
          have := congrArg List.length hdr
          rw [List.length_drop, Array.length_toList, List.length_cons] at this
          have e : a0.data.size = a0.size := rfl
          omega
        clear hn hn' n2 n3 hT2 htl hex hpx hdr hg
        go_wp2_with fail
        refine (Tryd.strings_IndexByte (a0.extract i a0.size) 0 _).mono ?_
        rintro e wr' ⟨rfl, rfl⟩
        rw [show ((0 : Int).toNat.toUInt8) = 0 from rfl, HIX.out, HN.out]
        go_wp2_with fail
        refine (Bd.writeString w.heap.size w.heap.size (Lib.byteCells acc) (a0.extract i (i + n)) _ hb.out ?hl hB.out.size).mono ?_
        case hl => rw [Lib.byteCells_length]; simp only [ByteArray.size_extract]; omega
        rintro e w2 ⟨rfl, hA2, hb2, _⟩
        rw [HEX.out] at hA2
        have HA2 := Lib.hid hA2
        have HB2 := Lib.hid (hB.out.trans hb2)
        clear hA2 hb2
        have hp0 : Lib.hasPrefix (a0.extract (i + n) a0.size).data.toList [0, 0] = decide (r.head? = some 0) := by
          rw [HPX.out]; exact prefix2 _ _
        have hp1 : Lib.hasPrefix (a0.extract (i + n) a0.size).data.toList [0, 255] = decide (r.head? = some 255) := by
          rw [HPX.out]; exact prefix2 _ _
        have HP0 := Lib.hid hp0
        have HP1 := Lib.hid hp1
        clear hp0 hp1
        by_cases hd0 : r.head? = some 0
        · have hf := HT2.out
          have hr : textL (0 :: r) = some ([], 2) := by
            cases r with
            | nil => simp at hd0
            | cons d r => simp at hd0; subst hd0; simp [textL]
          have h2 : 1 ≤ r.length := by cases r with | nil => simp at hd0 | cons d r => simp
          rw [hr] at hf
          have h9 := HH.out
          rw [hf] at h9
          simp only [pre, Option.map_some, Prod.mk.injEq, List.append_nil] at h9
          obtain ⟨rfl, rfl⟩ := h9
          have HD0 := Lib.hid (HP0.out.trans (decide_eq_true hd0))
          clear hd0 hf hr
          go_wp2_with fail
          refine (Tryd.strings_HasPrefix (a0.extract (i + n) a0.size) ⟨#[0, 0]⟩ _).mono ?_
          rintro e w3 ⟨rfl, rfl⟩
          rw [show ((⟨#[0, 0]⟩ : ByteArray).data.toList) = [0, 0] from rfl, HD0.out]
          go_wp2_with fail
          refine (Tryd.Builder_String_any_f w.heap.size w.heap.size _ _ (.inr HA2.out) HB2.out.size).mono ?_
          rintro e w4 ⟨rfl, _, hb4⟩
          have HB4 := Lib.hid (HB2.out.trans hb4)
          clear hb4
          go_wp2_with fail
          go_ret2
          exact ⟨rfl, HB4.out⟩
        · have HD0 := Lib.hid (HP0.out.trans (decide_eq_false hd0))
          by_cases hd1 : r.head? = some 255
          · have HD1 := Lib.hid (HP1.out.trans (decide_eq_true hd1))
            obtain ⟨r', hr'⟩ : ∃ r', r = 255 :: r' := by
              cases r with
              | nil => simp at hd1
              | cons d r => simp at hd1; subst hd1; exact ⟨r, rfl⟩
            have hr : textL (0 :: r) = pre [0] 2 (textL r') := by
              rw [hr']
              simp only [textL]
              cases textL r' <;> simp [pre, Nat.add_comm]
            have hdr2 : a0.data.toList.drop (i + n + 2) = r' := by
              rw [← List.drop_drop, HDR.out, hr']; rfl
            have h2 : 1 ≤ r.length := by rw [hr']; simp
            have HR := Lib.hid hr
            have HDR2 := Lib.hid hdr2
            clear hd0 hd1 hr' hr hdr2
            go_wp2_with fail
            refine (Tryd.strings_HasPrefix (a0.extract (i + n) a0.size) ⟨#[0, 0]⟩ _).mono ?_
            rintro e w3 ⟨rfl, rfl⟩
            rw [show ((⟨#[0, 0]⟩ : ByteArray).data.toList) = [0, 0] from rfl, HD0.out]
            go_wp2_with fail
            refine (Tryd.strings_HasPrefix (a0.extract (i + n) a0.size) ⟨#[0, 255]⟩ _).mono ?_
            rintro e w3 ⟨rfl, rfl⟩
            rw [show ((⟨#[0, 255]⟩ : ByteArray).data.toList) = [0, 255] from rfl, HD1.out]
            go_wp2_with fail
            refine (Bd.writeByte w.heap.size w.heap.size _ 0 _ (.inr HA2.out) ?hl HB2.out.size).mono ?_
            case hl => rw [Lib.byteCells_length, List.length_append, HTL.out]; omega
            rintro e w4 ⟨rfl, hA4, hb4, _⟩
            rw [show ([Value.int .u8 0] : List Value) = [.int .u8 (((0 : UInt8).toNat : Nat) : Int)] from rfl, byteCells_snoc'] at hA4
            have HA4 := Lib.hid hA4
            have HB4 := Lib.hid (HB2.out.trans hb4)
            clear hA4 hb4
            go_wp2_with fail
            go_roundw
            case measure => simp [intOf]; omega
            case rel =>
              refine ⟨i + n + 2, acc ++ (a0.data.toList.drop i).take n ++ [0], by omega, by go_num, ?_, ?_, ?_, HB4.out⟩
              · rw [List.length_append, List.length_append, HTL.out]; simp; omega
              · show _ = _
                rw [HT2.out, HR.out, pre_pre, HDR2.out]
              · exact .inr HA4.out
          · have HD1 := Lib.hid (HP1.out.trans (decide_eq_false hd1))
            have hf := HT2.out
            have hr : textL (0 :: r) = none := by
              cases r with
              | nil => rfl
              | cons d r =>
                simp at hd0 hd1
                simp [textL, hd0, hd1]
            rw [hr] at hf
            have h9 := HH.out
            rw [hf] at h9
            simp only [pre, Option.map_none, Prod.mk.injEq] at h9
            obtain ⟨rfl, rfl⟩ := h9
            clear hd0 hd1 hf hr
            go_wp2_with fail
            refine (Tryd.strings_HasPrefix (a0.extract (i + n) a0.size) ⟨#[0, 0]⟩ _).mono ?_
            rintro e w3 ⟨rfl, rfl⟩
            rw [show ((⟨#[0, 0]⟩ : ByteArray).data.toList) = [0, 0] from rfl, HD0.out]
            go_wp2_with fail
            refine (Tryd.strings_HasPrefix (a0.extract (i + n) a0.size) ⟨#[0, 255]⟩ _).mono ?_
            rintro e w3 ⟨rfl, rfl⟩
            rw [show ((⟨#[0, 255]⟩ : ByteArray).data.toList) = [0, 255] from rfl, HD1.out]
            go_wp2_with fail
            go_ret2
            exact ⟨rfl, HB2.out⟩
  · rw [if_neg hs] at h; cases h
end Go.Proofs.YtknkaaleafiifaaDoor
