/- What lex reads of a text, part four: a quote's text; for every text. -/
import Derived.Test.YtkggdnnhgafopaaDoorLex3
import Derived.Test.YtkggdnnhgafopaaDoorBuilder
set_option linter.unusedVariables false
namespace Go.Proofs.YtkggdnnhgafopaaDoor
open Go.RowKit Go.Proofs.YtkggdnnhgafopaaDoorW.PrintWords
def quo : ByteArray := ⟨#[39]⟩
set_option maxRecDepth 100000 in
set_option maxHeartbeats 4000000 in
/-- strings.Cut at a quote. -/
theorem cutlite_none (s : ByteArray) (h : Lib.indexByte s.data.toList 39 = -1) (w : World) :
    Calls Tryd.prog 97 #[.string s, .string quo] w fun e w' => e = .returned (.tuple #[.string s, .string ⟨#[]⟩, .bool false]) ∧ Below w.heap.size w w' := by
  have hi := fun W => Tryd.stringslite_Index_one s 39 W
  rw [h] at hi
  clear h
  go_enter Tryd.func97, Tryd.ntmps97
  go_wp2_with (go_at_call 99; refine (hi _).mono ?_; rintro e w' ⟨rfl, rfl⟩)
  go_ret3
  exact ⟨rfl, by repeat (first | exact Below.refl _ _ | apply Below.drew)⟩
set_option maxRecDepth 100000 in
set_option maxHeartbeats 4000000 in
theorem cutlite_some (s : ByteArray) (n : Nat) (hn : n < s.size) (hz : s.size ≤ 1099511627776) (h : Lib.indexByte s.data.toList 39 = n) (w : World) :
    Calls Tryd.prog 97 #[.string s, .string quo] w fun e w' => e = .returned (.tuple #[.string (s.extract 0 n), .string (s.extract (n + 1) s.size), .bool true]) ∧ Below w.heap.size w w' := by
  have hi := fun W => Tryd.stringslite_Index_one s 39 W
  rw [h] at hi
  clear h
  have h0 : decide ((0 : Int) ≤ (n : Int)) = true := decide_eq_true (by omega)
  have hq : quo.size = 1 := rfl
  go_enter Tryd.func97, Tryd.ntmps97
  go_wp2_with (go_at_call 99; refine (hi _).mono ?_; rintro e w' ⟨rfl, rfl⟩)
  go_quiet (fail)
  go_wp2
  go_ret3
  exact ⟨rfl, by repeat (first | exact Below.refl _ _ | exact below_drews _ _ | apply Below.drew)⟩
set_option maxRecDepth 100000 in
set_option maxHeartbeats 4000000 in
theorem cut_none (s : ByteArray) (h : Lib.indexByte s.data.toList 39 = -1) (w : World) :
    Calls Tryd.prog 90 #[.string s, .string quo] w fun e w' => e = .returned (.tuple #[.string s, .string ⟨#[]⟩, .bool false]) ∧ Below w.heap.size w w' := by
  have hi := cutlite_none s h
  clear h
  go_enter Tryd.func90, Tryd.ntmps90
  go_wp2_with (go_at_call 97; refine (hi _).mono ?_; rintro e w' ⟨rfl, hb⟩)
  go_ret3
  exact ⟨rfl, hb⟩
set_option maxRecDepth 100000 in
set_option maxHeartbeats 4000000 in
theorem cut_some (s : ByteArray) (n : Nat) (hn : n < s.size) (hz : s.size ≤ 1099511627776) (h : Lib.indexByte s.data.toList 39 = n) (w : World) :
    Calls Tryd.prog 90 #[.string s, .string quo] w fun e w' => e = .returned (.tuple #[.string (s.extract 0 n), .string (s.extract (n + 1) s.size), .bool true]) ∧ Below w.heap.size w w' := by
  have hi := cutlite_some s n hn hz h
  clear h
  go_enter Tryd.func90, Tryd.ntmps90
  go_wp2_with (go_at_call 97; refine (hi _).mono ?_; rintro e w' ⟨rfl, hb⟩)
  go_ret3
  exact ⟨rfl, hb⟩

/-- A quote's text behind its first sign, and how many bytes it has. -/
def quoteL : List UInt8 → Option (List UInt8 × Nat)
  | [] => none
  | [c] => if c = 39 then some ([], 1) else none
  | c :: d :: l => if c = 39 then (if d = 39 then (quoteL l).map (fun x => (39 :: x.1, x.2 + 2)) else some ([], 1)) else (quoteL (d :: l)).map (fun x => (c :: x.1, x.2 + 1))
theorem quoteL_other (c : UInt8) (l : List UInt8) (h : c ≠ 39) : quoteL (c :: l) = (quoteL l).map (fun x => (c :: x.1, x.2 + 1)) := by
  cases l with
  | nil => simp [quoteL, h]
  | cons d l => simp [quoteL, h]
def lex_quoted.f (s : ByteArray) : Option (ByteArray × Int) :=
  if 1 ≤ s.size ∧ s.size ≤ 1099511627776 then some (match quoteL (s.data.toList.drop 1) with | some x => (⟨x.1.toArray⟩, ((x.2 + 1 : Nat) : Int)) | none => (⟨#[]⟩, 0)) else none
def pre (a : List UInt8) (m : Nat) (o : Option (List UInt8 × Nat)) : Option (List UInt8 × Nat) := o.map fun x => (a ++ x.1, m + x.2)
theorem pre_pre (a b : List UInt8) (m n : Nat) (o : Option (List UInt8 × Nat)) : pre a m (pre b n o) = pre (a ++ b) (m + n) o := by
  cases o <;> simp [pre, Nat.add_assoc]
theorem quoteL_skip (l : List UInt8) : (Lib.indexByte l 39 = -1 → quoteL l = none) ∧ ∀ n : Nat, Lib.indexByte l 39 = n → n < l.length ∧ quoteL l = pre (l.take n) n (quoteL (l.drop n)) ∧ ∃ r, l.drop n = 39 :: r := by
  induction l with
  | nil => exact ⟨fun _ => rfl, fun n h => by simp [Lib.indexByte] at h⟩
  | cons c l ih =>
    by_cases hc : c = 39
    · subst hc
      refine ⟨fun h => by simp [Lib.indexByte] at h, fun n h => ?_⟩
      have hn : n = 0 := by simp [Lib.indexByte] at h; omega
      subst hn
      refine ⟨by simp, ?_, l, rfl⟩
      simp only [List.take_zero, List.drop_zero]
      cases quoteL (39 :: l) <;> simp [pre]
    · have hi : Lib.indexByte (c :: l) 39 = if Lib.indexByte l 39 == -1 then -1 else Lib.indexByte l 39 + 1 := by simp [Lib.indexByte, hc]
      have hg := Lib.indexByte_ge l 39
      have ht : quoteL (c :: l) = pre [c] 1 (quoteL l) := by
        rw [quoteL_other c l hc]
        cases quoteL l <;> simp [pre, Nat.add_comm]
      constructor
      · intro h
        rw [hi] at h
        by_cases k : Lib.indexByte l 39 = -1
        · rw [ht, ih.1 k]; rfl
        · rw [if_neg (by simpa using k)] at h; omega
      · intro n h
        rw [hi] at h
        by_cases k : Lib.indexByte l 39 = -1
        · rw [if_pos (by simpa using k)] at h; omega
        · rw [if_neg (by simpa using k)] at h
          obtain ⟨m, rfl⟩ : ∃ m, n = m + 1 := ⟨n - 1, by omega⟩
          obtain ⟨h1, h2, h3⟩ := ih.2 m (by omega)
          refine ⟨by simp; omega, ?_, ?_⟩
          · rw [ht, h2, pre_pre]
            simp only [List.take_succ_cons, List.drop_succ_cons, List.cons_append, List.nil_append]
            rw [Nat.add_comm 1 m]
          · simpa using h3
theorem prefix1 (r : List UInt8) : Lib.hasPrefix r [39] = decide (r.head? = some 39) := by
  cases r with
  | nil => rfl
  | cons d r =>
    have e : Lib.hasPrefix (d :: r) [39] = ((39 : UInt8) == d) := by simp [Lib.hasPrefix, List.isPrefixOf]
    rw [e]
    by_cases h : (39 : UInt8) = d
    · subst h; simp
    · have h2 : ¬ (d = 39) := fun k => h k.symm
      rw [beq_eq_false_iff_ne.2 h]
      simp [h2]
theorem byteCells_quo (l : List UInt8) : Lib.byteCells l ++ Lib.strCells quo = Lib.byteCells (l ++ [39]) := by
  rw [Lib.byteCells_append, Lib.strCells_eq]; rfl
theorem builder_below {T e : TypeId} {B b : Nat} {p : Value} {bs : List Value} {w w' : World} (h : Lib.BuilderAtF T e B b p bs w) (hb : Below w.heap.size w w') : Lib.BuilderAtF T e B b p bs w' := by
  have hlt := h.lt
  obtain ⟨hB, v, hbk, hown, hne⟩ := h
  exact ⟨hB, v, (hb.block b hlt).trans hbk, hown.kept (row := none) ⟨hb.os, hb.tape, hb.output, hb.size, fun k hk _ => hb.block k hk⟩ (by cases v.ownBlock <;> simp), hne⟩
theorem isB_below {T e : TypeId} {B b : Nat} {bs : List Value} {w w' : World} (h : Lib.IsBuilderF T e B b bs w) (hb : Below w.heap.size w w') : Lib.IsBuilderF T e B b bs w' :=
  h.elim (fun x => .inl (builder_below x hb)) (fun x => .inr (builder_below x hb))
set_option maxRecDepth 100000 in
set_option maxHeartbeats 8000000 in
theorem lex_quoted.calls (a0 : ByteArray) (r1 : ByteArray) (r2 : Int) (w : World) (h : lex_quoted.f a0 = some (r1, r2)) :
    Calls Tryd.prog 73 #[.string a0] w fun e w' => e = .returned (.tuple #[.string r1, .int .i64 r2]) ∧ Below w.heap.size w w' := by
  unfold lex_quoted.f at h
  by_cases hs : 1 ≤ a0.size ∧ a0.size ≤ 1099511627776
  · rw [if_pos hs] at h
    obtain ⟨hs1, hs⟩ := hs
    have HH := Lib.hid (Option.some.inj h)
    clear h
    go_enter Tryd.func73, Tryd.ntmps73
    go_wp2_with fail
    go_loopw [5] (fun v5 wr => ∃ (i : Nat) (acc : List UInt8), i + 1 ≤ a0.size ∧ v5 = .int .i64 (i + 1 : Nat) ∧ acc.length ≤ i ∧ Hid (quoteL (a0.data.toList.drop 1) = pre acc i (quoteL (a0.data.toList.drop (i + 1)))) ∧ Hid (Lib.IsBuilderF 81 5 w.heap.size w.heap.size (Lib.byteCells acc) wr) ∧ Hid (Below w.heap.size w wr)) (fun v5 _ => a0.size - (intOf v5).toNat)
    case atStart =>
      refine ⟨0, [], hs1, rfl, Nat.le_refl _, ?_, ?_, ?_⟩
      · show _ = _
        cases quoteL (a0.data.toList.drop 1) <;> simp [pre]
      · show Lib.IsBuilderF _ _ _ _ _ _
        exact .inl (Lib.BuilderAtF.of ⟨Nat.le_refl _, _, heap_alloc_new w _, Go.Proofs.YtkggdnnhgafopaaDoorW.PrintWords.own_nil _ _ _ _, by simp [Value.ownBlock]⟩)
      · exact (Below.refl _ _).alloc (Nat.le_refl _) _
    case round =>
      obtain ⟨i, acc, hi, rfl, hacc, hT, hb, hB⟩ := hrel
      have hix : (a0.extract (i + 1) a0.size).data.toList = a0.data.toList.drop (i + 1) := Lib.extract_to_end a0 (i + 1)
      have hld : (a0.data.toList.drop (i + 1)).length = a0.size - (i + 1) := by rw [List.length_drop, Array.length_toList]; rfl
      have hxz : (a0.extract (i + 1) a0.size).size = a0.size - (i + 1) := by simp
      obtain ⟨k1, k2⟩ := quoteL_skip (a0.data.toList.drop (i + 1))
      have HIX := Lib.hid hix
      have K1 := Lib.hid k1
      have K2 := Lib.hid k2
      have HLD := Lib.hid hld
      have HXZ := Lib.hid hxz
      clear hix k1 k2 hld hxz
      by_cases hn : Lib.indexByte (a0.data.toList.drop (i + 1)) 39 = -1
      · have HN := Lib.hid (show Lib.indexByte (a0.extract (i + 1) a0.size).data.toList 39 = -1 by rw [HIX.out]; exact hn)
        have hf := hT.out
        rw [K1.out hn] at hf
        have h9 := HH.out
        rw [hf] at h9
        simp only [pre, Option.map_none, Prod.mk.injEq] at h9
        obtain ⟨rfl, rfl⟩ := h9
        clear hn hf
        go_wp2_with fail
        refine (cut_none (a0.extract (i + 1) a0.size) HN.out _).mono ?_
        rintro e wr' ⟨rfl, hb'⟩
        have HB2 := Lib.hid (hB.out.trans (hb'.mono hB.out.size))
        clear hb'
        go_wp2_with fail
        go_ret2
        exact ⟨rfl, HB2.out⟩
      · have hg := Lib.indexByte_ge (a0.data.toList.drop (i + 1)) 39
        obtain ⟨n, hn'⟩ : ∃ n : Nat, Lib.indexByte (a0.data.toList.drop (i + 1)) 39 = n := ⟨(Lib.indexByte (a0.data.toList.drop (i + 1)) 39).toNat, by omega⟩
        obtain ⟨n1, n2, r, n3⟩ := K2.out n hn'
        rw [HLD.out] at n1
        obtain ⟨P, R, hP, hR, hcut⟩ : ∃ P R : ByteArray, P.data.toList = (a0.data.toList.drop (i + 1)).take n ∧ R.data.toList = r ∧ ∀ W, Calls Tryd.prog 90 #[.string (a0.extract (i + 1) a0.size), .string quo] W fun e w' => e = .returned (.tuple #[.string P, .string R, .bool true]) ∧ Below W.heap.size W w' := by
          refine ⟨_, _, ?_, ?_, fun W => cut_some (a0.extract (i + 1) a0.size) n (by rw [HXZ.out]; omega) (by rw [HXZ.out]; omega) (by rw [HIX.out]; exact hn') W⟩
          · rw [Lib.extract_data, HIX.out]; simp
          · rw [Lib.extract_to_end, HIX.out, ← List.drop_drop, n3]; rfl
        have hPz : P.size = n := by
          have : P.size = P.data.toList.length := Array.length_toList.symm
          rw [this, hP, List.length_take, HLD.out]; omega
        have hdr : a0.data.toList.drop (i + 1 + n) = 39 :: r := by rw [← List.drop_drop]; exact n3
        have hrl : r.length + 1 = a0.size - (i + 1 + n) := by
          have := congrArg List.length hdr
          rw [List.length_drop, Array.length_toList, List.length_cons] at this
          have e : a0.data.size = a0.size := rfl
          omega
        have HT2 := Lib.hid (show quoteL (a0.data.toList.drop 1) = pre (acc ++ P.data.toList) (i + n) (quoteL (39 :: r)) by rw [hT.out, n2, pre_pre, n3, hP])
        have HEX := Lib.hid (show Lib.byteCells acc ++ Lib.strCells P = Lib.byteCells (acc ++ P.data.toList) by rw [Lib.byteCells_append, Lib.strCells_eq])
        have HPL := Lib.hid (show P.data.toList.length = n by rw [← hPz]; exact Array.length_toList)
        have HRP := Lib.hid (show Lib.hasPrefix R.data.toList quo.data.toList = decide (r.head? = some 39) by rw [hR]; exact prefix1 r)
        have HDR := Lib.hid hdr
        have HCUT := Lib.hid hcut
        clear hn hn' n2 n3 hg hP hR hcut hdr
        go_wp2_with fail
        refine (HCUT.out _).mono ?_
        rintro e w1 ⟨rfl, hb1⟩
        have hb1' := isB_below hb.out hb1
        have HBa := Lib.hid hb1'
        have HB1 := Lib.hid (hB.out.trans (hb1.mono hB.out.size))
        clear hb1 hb1'
        go_wp2_with fail
        refine (Bd.writeString w.heap.size w.heap.size (Lib.byteCells acc) P _ HBa.out ?hl HB1.out.size).mono ?_
        case hl => rw [Lib.byteCells_length]; omega
        rintro e w2 ⟨rfl, hA2, hb2, _⟩
        rw [HEX.out] at hA2
        have HA2 := Lib.hid hA2
        have HB2 := Lib.hid (HB1.out.trans hb2)
        clear hA2 hb2
        by_cases hd : r.head? = some 39
        · have HD := Lib.hid (HRP.out.trans (decide_eq_true hd))
          obtain ⟨r', hr'⟩ : ∃ r', r = 39 :: r' := by
            cases r with
            | nil => simp at hd
            | cons d r => simp at hd; subst hd; exact ⟨r, rfl⟩
          have HR2 := Lib.hid (show quoteL (39 :: r) = pre [39] 2 (quoteL r') by
            rw [hr']
            simp only [quoteL, if_true]
            cases quoteL r' <;> simp [pre, Nat.add_comm])
          have HDR2 := Lib.hid (show a0.data.toList.drop (i + n + 2 + 1) = r' by
            rw [show i + n + 2 + 1 = (i + 1 + n) + 2 by omega, ← List.drop_drop, HDR.out, hr']; rfl)
          have h2 : 1 ≤ r.length := by rw [hr']; simp
          clear hd hr'
          go_wp2_with fail
          refine (Tryd.strings_HasPrefix R quo _).mono ?_
          rintro e w3 ⟨rfl, rfl⟩
          rw [HD.out]
          go_wp2_with fail
          refine (Bd.writeString w.heap.size w.heap.size _ quo _ (.inr HA2.out) ?hl HB2.out.size).mono ?_
          case hl => rw [Lib.byteCells_length, List.length_append, HPL.out, show quo.size = 1 from rfl]; omega
          rintro e w4 ⟨rfl, hA4, hb4, _⟩
          rw [byteCells_quo] at hA4
          have HA4 := Lib.hid hA4
          have HB4 := Lib.hid (HB2.out.trans hb4)
          clear hA4 hb4
          go_wp2_with fail
          go_roundw
          case measure => simp [intOf]; omega
          case rel =>
            refine ⟨i + n + 2, acc ++ P.data.toList ++ [39], by omega, by go_num, ?_, ?_, ?_, HB4.out⟩
            · rw [List.length_append, List.length_append, HPL.out]; simp; omega
            · show _ = _
              rw [HT2.out, HR2.out, pre_pre, HDR2.out]
            · exact .inr HA4.out
        · have HD := Lib.hid (HRP.out.trans (decide_eq_false hd))
          have hf := HT2.out
          have hr : quoteL (39 :: r) = some ([], 1) := by
            cases r with
            | nil => rfl
            | cons d r =>
              have : ¬ d = 39 := by simpa using hd
              simp [quoteL, this]
          rw [hr] at hf
          have h9 := HH.out
          rw [hf] at h9
          simp only [pre, Option.map_some, Prod.mk.injEq, List.append_nil] at h9
          obtain ⟨rfl, rfl⟩ := h9
          clear hd hf hr
          go_wp2_with fail
          refine (Tryd.strings_HasPrefix R quo _).mono ?_
          rintro e w3 ⟨rfl, rfl⟩
          rw [HD.out]
          go_wp2_with fail
          refine (Tryd.Builder_String_any_f w.heap.size w.heap.size _ _ (.inr HA2.out) HB2.out.size).mono ?_
          rintro e w4 ⟨rfl, _, hb4⟩
          have HB4 := Lib.hid (HB2.out.trans hb4)
          clear hb4
          go_wp2_with fail
          go_ret2
          exact ⟨by go_num, HB4.out⟩
  · rw [if_neg hs] at h; cases h
end Go.Proofs.YtkggdnnhgafopaaDoor
