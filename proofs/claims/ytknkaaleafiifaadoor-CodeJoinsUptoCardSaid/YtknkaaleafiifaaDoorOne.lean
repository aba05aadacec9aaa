/- The bytes of one right value, put into a builder that the call has made: what code.one comes to; the value right, the builder's length within 2^46. -/
import Derived.Test.YtknkaaleafiifaaDoorReplace
import Derived.Test.YtknkaaleafiifaaDoorPut
import Derived.Test.YtknkaaleafiifaaDoorRefValue
import Derived.Test.YtknkaaleafiifaaDoorNumPl
namespace Go.Proofs.YtknkaaleafiifaaDoor
open Go.RowKit

def bytesU (l : List Int) : List UInt8 := l.map fun n => UInt8.ofNat n.toNat
/-- A right value's bytes. -/
def oneL (k n : Int) (s : List UInt8) : List UInt8 :=
  if k = 1 then [1, UInt8.ofNat n.toNat]
  else if k = 2 then 2 :: bytesU ((putBytes (n + 2147483648)).drop 4)
  else if k = 3 then 3 :: bytesU (putBytes (n + 9223372036854775808))
  else if k = 4 then 4 :: (esc s ++ [0, 0])
  else [0]

def OnePost (B b : Nat) (l : List UInt8) (w : World) (e : Ending) (w' : World) : Prop :=
  e = .returned (.tuple #[]) ∧ Lib.BuilderAtF 43 5 B b (.pointer (some ⟨b, 0, none⟩)) (Lib.byteCells l) w' ∧ Below B w w'

theorem isB_alloc {T e : TypeId} {B b : Nat} {bs : List Value} {w : World} (h : Lib.IsBuilderF T e B b bs w) (o : Obj) : Lib.IsBuilderF T e B b bs (w.alloc o) :=
  h.elim (fun x => .inl (x.alloc o)) (fun x => .inr (x.alloc o))
theorem isB_lt {T e : TypeId} {B b : Nat} {bs : List Value} {w : World} (h : Lib.IsBuilderF T e B b bs w) : b < w.heap.size :=
  h.elim (fun x => x.lt) (fun x => x.lt)
/-- The value's own box lives on beside the builder. -/
theorem box_kept {b : Nat} {w w1 : World} {c0 c1 c2 : Value} {T : TypeId} (hT : T ≠ 5) (hlt : b < w.heap.size) (hk : Lib.OthersKept 5 (some b) (w.alloc (.cells #[c0, c1, c2] T)) w1) :
    w1.cell? ⟨w.heap.size, 0, none⟩ = some c0 ∧ w1.cell? ⟨w.heap.size, 1, none⟩ = some c1 ∧ w1.cell? ⟨w.heap.size, 2, none⟩ = some c2 := by
  have h := hk w.heap.size _ (heap_alloc_new w _) (by intro e; injection e; omega) (by intro c fz e; injection e with e1 e2 e3; exact hT e2)
  refine ⟨?_, ?_, ?_⟩ <;> (rw [Lib.cell_of_heap h]; rfl)
theorem builder_below {T e : TypeId} {B b : Nat} {p : Value} {bs : List Value} {w w' : World} (h : Lib.BuilderAtF T e B b p bs w) (hb : Below w.heap.size w w') : Lib.BuilderAtF T e B b p bs w' := by
  have hlt := h.lt
  obtain ⟨hB, v, hbk, hown, hne⟩ := h
  exact ⟨hB, v, (hb.block b hlt).trans hbk, hown.kept (row := none) ⟨hb.os, hb.tape, hb.output, hb.size, fun k hk _ => hb.block k hk⟩ (by cases v.ownBlock <;> simp), hne⟩
theorem below_two {B : Nat} {w w1 w2 : World} (h : Below B w w1) (hB : B ≤ w.heap.size) (hb : Below w1.heap.size w1 w2) : Below B w w2 :=
  h.trans ⟨hb.os, hb.tape, hb.output, hb.size, fun k hk => hb.block k (Nat.lt_of_lt_of_le hk (Nat.le_trans hB h.size))⟩
theorem flip_any (n : Int) (hn : -9223372036854775808 ≤ n ∧ n ≤ 9223372036854775807) (w : World) :
    Calls Tryd.prog 26 #[.int .i64 n] w fun e w' => e = .returned (.int .u64 (n + 9223372036854775808)) ∧ w = w' := by
  have e : bits .xor .u64 (IntKind.u64.wrap n) 9223372036854775808 = n + 9223372036854775808 := by
    rw [NumPl.xor_top_u64 _ (by simp only [IntKind.wrap_u64]; omega) (by simp only [IntKind.wrap_u64]; omega)]
    simp only [IntKind.wrap_u64]; omega
  have H := Lib.hid e
  clear e hn
  go_enter Tryd.func26, Tryd.ntmps26
  go_wp2
  go_ret
  exact ⟨by rw [← H.out]; rfl, rfl⟩
theorem byteCells_snoc' (l : List UInt8) (c : UInt8) : Lib.byteCells l ++ [.int .u8 (c.toNat : Int)] = Lib.byteCells (l ++ [c]) := by simp [Lib.byteCells]

set_option maxRecDepth 100000 in
set_option maxHeartbeats 4000000 in
theorem one_null (B b : Nat) (l : List UInt8) (n : Int) (s : ByteArray) (w : World) (h : Lib.IsBuilderF 43 5 B b (Lib.byteCells l) w) (hlen : l.length ≤ 70368744177664) (hBw : B ≤ w.heap.size) :
    Calls Tryd.prog 17 #[.pointer (some ⟨b, 0, none⟩), .agg #[.int .i64 0, .int .i64 n, .string s]] w (OnePost B b (l ++ [0]) w) := by
  have H := Lib.hid h
  have hbl := isB_lt h
  clear h
  go_enter Tryd.func17, Tryd.ntmps17
  go_wp2_with fail
  refine (Bd.writeByte B b (Lib.byteCells l) 0 _ (isB_alloc H.out _) (by rw [Lib.byteCells_length]; omega) (by simp; omega)).mono ?_
  rintro e w1 ⟨rfl, hA1, hb1, hk1⟩
  obtain ⟨x0, x1, x2⟩ := box_kept (by decide) hbl hk1
  rw [show ([Value.int .u8 0] : List Value) = [.int .u8 (((0 : UInt8).toNat : Nat) : Int)] from rfl, byteCells_snoc'] at hA1
  have HA1 := Lib.hid hA1
  have HB1 := Lib.hid (((Below.refl B w).alloc hBw _).trans hb1)
  clear hA1 hb1 hk1
  go_wp2_with fail
  go_end0
  exact ⟨rfl, HA1.out, HB1.out⟩

set_option maxRecDepth 100000 in
set_option maxHeartbeats 4000000 in
theorem one_bool (B b : Nat) (l : List UInt8) (n : Int) (hn : 0 ≤ n ∧ n ≤ 1) (s : ByteArray) (w : World) (h : Lib.IsBuilderF 43 5 B b (Lib.byteCells l) w) (hlen : l.length ≤ 70368744177664) (hBw : B ≤ w.heap.size) :
    Calls Tryd.prog 17 #[.pointer (some ⟨b, 0, none⟩), .agg #[.int .i64 1, .int .i64 n, .string s]] w (OnePost B b (l ++ [1, UInt8.ofNat n.toNat]) w) := by
  obtain ⟨hn0, hn1⟩ := hn
  have H := Lib.hid h
  have hbl := isB_lt h
  clear h
  go_enter Tryd.func17, Tryd.ntmps17
  go_wp2_with fail
  refine (Bd.writeByte B b (Lib.byteCells l) 1 _ (isB_alloc H.out _) (by rw [Lib.byteCells_length]; omega) (by simp; omega)).mono ?_
  rintro e w1 ⟨rfl, hA1, hb1, hk1⟩
  obtain ⟨x0, x1, x2⟩ := box_kept (by decide) hbl hk1
  rw [show ([Value.int .u8 1] : List Value) = [.int .u8 (((1 : UInt8).toNat : Nat) : Int)] from rfl, byteCells_snoc'] at hA1
  have HA1 := Lib.hid hA1
  have HB1 := Lib.hid (((Below.refl B w).alloc hBw _).trans hb1)
  clear hA1 hb1 hk1
  go_wp2_with fail
  refine (Bd.writeByte B b (Lib.byteCells (l ++ [1])) _ _ (.inr HA1.out) (by rw [Lib.byteCells_length]; simp; omega) (by have := HB1.out.size; omega)).mono ?_
  rintro e w2 ⟨rfl, hA2, hb2, _⟩
  have h9 : Lib.byteCells (l ++ [1]) ++ [.int .u8 n] = Lib.byteCells (l ++ [1, UInt8.ofNat n.toNat]) := by
    have e : ((UInt8.ofNat n.toNat).toNat : Int) = n := by simp; omega
    rw [show ([Value.int .u8 n] : List Value) = [.int .u8 (((UInt8.ofNat n.toNat).toNat : Nat) : Int)] from by rw [e], byteCells_snoc', List.append_assoc]
    rfl
  rw [h9] at hA2
  have HA2 := Lib.hid hA2
  have HB2 := Lib.hid (HB1.out.trans hb2)
  clear hA2 hb2 h9
  go_wp2_with fail
  go_end0
  exact ⟨rfl, HA2.out, HB2.out⟩

set_option maxRecDepth 100000 in
set_option maxHeartbeats 4000000 in
theorem one_int32 (B b : Nat) (l : List UInt8) (n : Int) (hn : -2147483648 ≤ n ∧ n ≤ 2147483647) (s : ByteArray) (w : World) (h : Lib.IsBuilderF 43 5 B b (Lib.byteCells l) w) (hlen : l.length ≤ 70368744177664) (hBw : B ≤ w.heap.size) :
    Calls Tryd.prog 17 #[.pointer (some ⟨b, 0, none⟩), .agg #[.int .i64 2, .int .i64 n, .string s]] w (OnePost B b (l ++ 2 :: bytesU ((putBytes (n + 2147483648)).drop 4)) w) := by
  have H := Lib.hid h
  have hbl := isB_lt h
  clear h
  go_enter Tryd.func17, Tryd.ntmps17
  go_wp2_with fail
  refine (Bd.writeByte B b (Lib.byteCells l) 2 _ (isB_alloc H.out _) (by rw [Lib.byteCells_length]; omega) (by simp; omega)).mono ?_
  rintro e w1 ⟨rfl, hA1, hb1, hk1⟩
  obtain ⟨x0, x1, x2⟩ := box_kept (by decide) hbl hk1
  rw [show ([Value.int .u8 2] : List Value) = [.int .u8 (((2 : UInt8).toNat : Nat) : Int)] from rfl, byteCells_snoc'] at hA1
  have HA1 := Lib.hid hA1
  have HB1 := Lib.hid (((Below.refl B w).alloc hBw _).trans hb1)
  clear hA1 hb1 hk1
  go_wp2_with fail
  rw [NumPl.xor_top_u32 n hn]
  refine (num_Put.calls (n + 2147483648) (strOfNums (putBytes (n + 2147483648))) w1 (by unfold num_Put.f; rw [if_pos (by omega), if_pos (by omega)])).mono ?_
  rintro e w2 ⟨rfl, hb2⟩
  have hl2 := HA1.out.lt
  have hA2 : Lib.BuilderAtF 43 5 B b (.pointer (some ⟨b, 0, none⟩)) (Lib.byteCells (l ++ [2])) w2 := builder_below HA1.out hb2
  have HA2 := Lib.hid hA2
  have HB2 := Lib.hid (below_two HB1.out hBw hb2)
  have hz : (strOfNums (putBytes (n + 2147483648))).size = 8 := by rw [strOfNums_size]; rfl
  have h9 : Lib.byteCells (l ++ [2]) ++ Lib.strCells ((strOfNums (putBytes (n + 2147483648))).extract 4 8) = Lib.byteCells (l ++ 2 :: bytesU ((putBytes (n + 2147483648)).drop 4)) := by
    rw [Lib.strCells_eq, Lib.extract_data, ← Lib.byteCells_append, List.append_assoc, strOfNums_data]
    rfl
  generalize strOfNums (putBytes (n + 2147483648)) = S at *
  have H9 := Lib.hid h9
  clear hA2 hb2 h9 hl2
  go_wp2_with fail
  refine (Bd.writeString B b _ (S.extract 4 8) _ (.inr HA2.out) (by rw [Lib.byteCells_length]; simp only [ByteArray.size_extract, List.length_append, List.length_cons, List.length_nil]; omega) (by have := HB2.out.size; omega)).mono ?_
  rintro e w3 ⟨rfl, hA3, hb3, _⟩
  rw [H9.out] at hA3
  have HA3 := Lib.hid hA3
  have HB3 := Lib.hid (HB2.out.trans hb3)
  clear hA3 hb3
  go_wp2_with fail
  go_end0
  exact ⟨rfl, HA3.out, HB3.out⟩

set_option maxRecDepth 100000 in
set_option maxHeartbeats 4000000 in
theorem one_int64 (B b : Nat) (l : List UInt8) (n : Int) (hn : -9223372036854775808 ≤ n ∧ n ≤ 9223372036854775807) (s : ByteArray) (w : World) (h : Lib.IsBuilderF 43 5 B b (Lib.byteCells l) w) (hlen : l.length ≤ 70368744177664) (hBw : B ≤ w.heap.size) :
    Calls Tryd.prog 17 #[.pointer (some ⟨b, 0, none⟩), .agg #[.int .i64 3, .int .i64 n, .string s]] w (OnePost B b (l ++ 3 :: bytesU (putBytes (n + 9223372036854775808))) w) := by
  have H64 := Lib.hid hn
  clear hn
  have H := Lib.hid h
  have hbl := isB_lt h
  clear h
  go_enter Tryd.func17, Tryd.ntmps17
  go_wp2_with fail
  refine (Bd.writeByte B b (Lib.byteCells l) 3 _ (isB_alloc H.out _) (by rw [Lib.byteCells_length]; omega) (by simp; omega)).mono ?_
  rintro e w1 ⟨rfl, hA1, hb1, hk1⟩
  obtain ⟨x0, x1, x2⟩ := box_kept (by decide) hbl hk1
  rw [show ([Value.int .u8 3] : List Value) = [.int .u8 (((3 : UInt8).toNat : Nat) : Int)] from rfl, byteCells_snoc'] at hA1
  have HA1 := Lib.hid hA1
  have HB1 := Lib.hid (((Below.refl B w).alloc hBw _).trans hb1)
  clear hA1 hb1 hk1
  go_wp2_with fail
  refine (flip_any n H64.out w1).mono ?_
  rintro e w2 ⟨rfl, rfl⟩
  have hp : num_Put.f (n + 9223372036854775808) = some (strOfNums (putBytes (n + 9223372036854775808))) := by
    have := H64.out
    unfold num_Put.f; rw [if_pos (by omega), if_pos (by omega)]
  have hz : (strOfNums (putBytes (n + 9223372036854775808))).size = 8 := by rw [strOfNums_size]; rfl
  have h9 : Lib.byteCells (l ++ [3]) ++ Lib.strCells (strOfNums (putBytes (n + 9223372036854775808))) = Lib.byteCells (l ++ 3 :: bytesU (putBytes (n + 9223372036854775808))) := by
    rw [Lib.strCells_eq, ← Lib.byteCells_append, List.append_assoc, strOfNums_data]
    rfl
  generalize strOfNums (putBytes (n + 9223372036854775808)) = S at *
  generalize n + 9223372036854775808 = X at *
  have H9 := Lib.hid h9
  have HP := Lib.hid hp
  clear h9 hp
  go_wp2_with fail
  refine (num_Put.calls X S w1 HP.out).mono ?_
  rintro e w2 ⟨rfl, hb2⟩
  have HA2 := Lib.hid (builder_below HA1.out hb2)
  have HB2 := Lib.hid (below_two HB1.out hBw hb2)
  clear hb2
  go_wp2_with fail
  refine (Bd.writeString B b _ S _ (.inr HA2.out) (by rw [Lib.byteCells_length]; simp only [List.length_append, List.length_cons, List.length_nil]; omega) (by have := HB2.out.size; omega)).mono ?_
  rintro e w3 ⟨rfl, hA3, hb3, _⟩
  rw [H9.out] at hA3
  have HA3 := Lib.hid hA3
  have HB3 := Lib.hid (HB2.out.trans hb3)
  clear hA3 hb3
  go_wp2_with fail
  go_end0
  exact ⟨rfl, HA3.out, HB3.out⟩

set_option maxRecDepth 100000 in
set_option maxHeartbeats 4000000 in
theorem one_text (B b : Nat) (l : List UInt8) (s : ByteArray) (hs : s.size ≤ 200) (w : World) (h : Lib.IsBuilderF 43 5 B b (Lib.byteCells l) w) (hlen : l.length ≤ 70368744177664) (hBw : B ≤ w.heap.size) :
    Calls Tryd.prog 17 #[.pointer (some ⟨b, 0, none⟩), .agg #[.int .i64 4, .int .i64 0, .string s]] w (OnePost B b (l ++ 4 :: (esc s.data.toList ++ [0, 0])) w) := by
  have H := Lib.hid h
  have hbl := isB_lt h
  clear h
  go_enter Tryd.func17, Tryd.ntmps17
  go_wp2_with fail
  refine (Bd.writeByte B b (Lib.byteCells l) 4 _ (isB_alloc H.out _) (by rw [Lib.byteCells_length]; omega) (by simp; omega)).mono ?_
  rintro e w1 ⟨rfl, hA1, hb1, hk1⟩
  obtain ⟨x0, x1, x2⟩ := box_kept (by decide) hbl hk1
  rw [show ([Value.int .u8 4] : List Value) = [.int .u8 (((4 : UInt8).toNat : Nat) : Int)] from rfl, byteCells_snoc'] at hA1
  have HA1 := Lib.hid hA1
  have HB1 := Lib.hid (((Below.refl B w).alloc hBw _).trans hb1)
  clear hA1 hb1 hk1
  go_wp2_with fail
  refine (replaceAll s w1 (by omega)).mono ?_
  rintro e w2 ⟨rfl, hb2⟩
  have hz : (esc s.data.toList).length ≤ 400 := by
    rw [esc_length]
    have h2 := List.count_le_length (a := (0 : UInt8)) (l := s.data.toList)
    have h3 : s.data.toList.length = s.size := by rw [Array.length_toList]; rfl
    omega
  have hz2 : (⟨(esc s.data.toList).toArray⟩ : ByteArray).size ≤ 400 := by simpa [ByteArray.size] using hz
  have h9 : Lib.byteCells (l ++ [4]) ++ Lib.strCells ⟨(esc s.data.toList).toArray⟩ ++ Lib.strCells ⟨#[0, 0]⟩ = Lib.byteCells (l ++ 4 :: (esc s.data.toList ++ [0, 0])) := by
    rw [Lib.strCells_eq, Lib.strCells_eq, ← Lib.byteCells_append, ← Lib.byteCells_append, List.append_assoc, List.append_assoc]
    rfl
  have HA2 := Lib.hid (builder_below HA1.out hb2)
  have HB2 := Lib.hid (below_two HB1.out hBw hb2)
  generalize (⟨(esc s.data.toList).toArray⟩ : ByteArray) = S at *
  have H9 := Lib.hid h9
  clear hb2 h9
  go_wp2_with fail
  refine (Bd.writeString B b _ S _ (.inr HA2.out) (by rw [Lib.byteCells_length]; simp only [List.length_append, List.length_cons, List.length_nil]; omega) (by have := HB2.out.size; omega)).mono ?_
  rintro e w3 ⟨rfl, hA3, hb3, _⟩
  have HA3 := Lib.hid hA3
  have HB3 := Lib.hid (HB2.out.trans hb3)
  clear hA3 hb3
  go_wp2_with fail
  refine (Bd.writeString B b _ ⟨#[0, 0]⟩ _ (.inr HA3.out) (by rw [List.length_append, Lib.byteCells_length, Lib.strCells_length]; simp only [List.length_append, List.length_cons, List.length_nil]; have h4 : (⟨#[0, 0]⟩ : ByteArray).size = 2 := rfl; omega) (by have := HB3.out.size; omega)).mono ?_
  rintro e w4 ⟨rfl, hA4, hb4, _⟩
  rw [H9.out] at hA4
  have HA4 := Lib.hid hA4
  have HB4 := Lib.hid (HB3.out.trans hb4)
  clear hA4 hb4
  go_wp2_with fail
  go_end0
  exact ⟨rfl, HA4.out, HB4.out⟩

/-- Whatever the right value. -/
theorem one_any (B b : Nat) (l : List UInt8) (k n : Int) (s : ByteArray) (hr : rightV k n s = true) (hn : -9223372036854775808 ≤ n ∧ n ≤ 9223372036854775807) (w : World) (h : Lib.IsBuilderF 43 5 B b (Lib.byteCells l) w) (hlen : l.length ≤ 70368744177664) (hBw : B ≤ w.heap.size) :
    Calls Tryd.prog 17 #[.pointer (some ⟨b, 0, none⟩), .agg #[.int .i64 k, .int .i64 n, .string s]] w (OnePost B b (l ++ oneL k n s.data.toList) w) := by
  unfold rightV at hr
  by_cases k4 : k = 4
  · subst k4
    simp only [if_true, Bool.and_eq_true, decide_eq_true_eq] at hr
    obtain ⟨rfl, h2⟩ := hr
    exact one_text B b l s (by omega) w h hlen hBw
  · rw [if_neg k4] at hr
    by_cases hs : s.toList = []
    · rw [if_pos hs] at hr
      by_cases k0 : k = 0
      · subst k0; exact one_null B b l n s w h hlen hBw
      rw [if_neg k0] at hr
      by_cases k1 : k = 1
      · subst k1
        exact one_bool B b l n (by simp at hr; omega) s w h hlen hBw
      rw [if_neg k1] at hr
      by_cases k2 : k = 2
      · subst k2
        exact one_int32 B b l n (by simp at hr; omega) s w h hlen hBw
      rw [if_neg k2] at hr
      have k3 : k = 3 := by simpa using hr
      subst k3
      exact one_int64 B b l n hn s w h hlen hBw
    · rw [if_neg hs] at hr; cases hr
end Go.Proofs.YtknkaaleafiifaaDoor
