/- The bytes of any values that are read out of a slice: what code.Encode comes to; of at most 2^30 values. -/
import Derived.Test.YtknkaaleafiifaaDoorRefOne
import Derived.Test.YtknkaaleafiifaaDoorK1
set_option linter.unusedVariables false
namespace Go.Proofs.YtknkaaleafiifaaDoor
open Go.RowKit Go.Proofs.YtknkaaleafiifaaDoorW.PrintWords Go.Proofs.YtknkaaleafiifaaDoor.Kp

def okN (x : S32) : Bool := decide (-9223372036854775808 ≤ x.f1) && decide (x.f1 ≤ 9223372036854775807)
def rightX (x : S32) : Bool := rightV x.f0 x.f1 x.f2
/-- The values' bytes, if all are right. -/
def encX (x : S32) : List UInt8 := oneL x.f0 x.f1 x.f2.data.toList
def encL (l : List S32) : List UInt8 := l.flatMap encX
def code_Encode.f (l : List S32) : Option (ByteArray × Int) :=
  if (l.all okN && decide (l.length ≤ 1073741824)) = true then (if l.all rightX = true then some (⟨(encL l).toArray⟩, 0) else some (⟨#[]⟩, 1)) else none

theorem right_size {k n : Int} {s : ByteArray} (h : rightV k n s = true) : s.size ≤ 200 := by
  unfold rightV at h
  by_cases k4 : k = 4
  · rw [if_pos k4] at h; simp at h; omega
  · rw [if_neg k4] at h
    by_cases hs : s.toList = []
    · have : s.data.toList.length = 0 := by rw [← ByteArray.toList_eq, hs]; rfl
      rw [Array.length_toList] at this
      have e : s.size = s.data.size := rfl
      omega
    · rw [if_neg hs] at h; cases h
theorem oneL_length {k n : Int} {s : ByteArray} (h : rightV k n s = true) : (oneL k n s.data.toList).length ≤ 403 := by
  have hs := right_size h
  have he : (esc s.data.toList).length ≤ 400 := by
    rw [esc_length]
    have h2 := List.count_le_length (a := (0 : UInt8)) (l := s.data.toList)
    have h3 : s.data.toList.length = s.size := by rw [Array.length_toList]; rfl
    omega
  unfold oneL
  split
  · simp
  · split
    · simp [bytesU, putBytes]
    · split
      · simp [bytesU, putBytes]
      · split
        · simp; omega
        · simp
theorem encL_length (l : List S32) (h : l.all rightX = true) : (encL l).length ≤ 403 * l.length := by
  induction l with
  | nil => simp [encL]
  | cons x l ih =>
    simp only [List.all_cons, Bool.and_eq_true] at h
    have h1 := ih h.2
    have h2 := oneL_length h.1
    have h3 : (encL (x :: l)).length = (encX x).length + (encL l).length := by simp [encL]
    have h4 : (encX x).length ≤ 403 := h2
    rw [h3, List.length_cons]
    omega
theorem encL_snoc (l : List S32) (x : S32) : encL (l ++ [x]) = encL l ++ encX x := by simp [encL]

/-- Whatever the program's Right says. -/
theorem right_any (k n : Int) (s : ByteArray) : Kp.value_Right.f k n s = some (rightV k n s) := by
  unfold Kp.value_Right.f rightV
  by_cases k4 : k = 4
  · rw [if_pos k4, if_pos k4]
    by_cases h : n = 0
    · rw [if_pos h]; simp [h]
    · rw [if_neg h]; simp [h]
  rw [if_neg k4, if_neg k4]
  by_cases hs : s.toList = []
  · rw [if_pos hs]
    have hr : Kp.value_room.f n k = some (if k = 0 then decide (n = 0) else if k = 1 then decide (n = 0) || decide (n = 1) else if k = 2 then decide (-2147483648 ≤ n) && decide (n ≤ 2147483647) else decide (k = 3)) := by
      unfold Kp.value_room.f
      by_cases k0 : k = 0
      · rw [if_pos k0, if_pos k0]; congr 1
      rw [if_neg k0, if_neg k0]
      by_cases k1 : k = 1
      · rw [if_pos k1, if_pos k1]
        by_cases h : n = 0
        · rw [if_pos h]; simp [h]
        · rw [if_neg h]; congr 1; simp only [h, decide_false, Bool.false_or]; exact Bool.eq_iff_iff.2 (by simp)
      rw [if_neg k1, if_neg k1]
      by_cases k2 : k = 2
      · rw [if_pos k2, if_pos k2]
        unfold Kp.num_Narrow.f
        by_cases h1 : n < -2147483648
        · rw [if_pos h1]; simp; omega
        rw [if_neg h1]
        by_cases h2 : n > 2147483647
        · rw [if_pos h2]; simp; omega
        rw [if_neg h2]; simp; omega
      rw [if_neg k2, if_neg k2]; congr 1
    by_cases k0 : k = 0
    · rw [if_pos k0, if_pos hs, hr]; rfl
    rw [if_neg k0]
    by_cases k1 : k = 1
    · rw [if_pos k1, if_pos hs, hr]; rfl
    rw [if_neg k1]
    by_cases k2 : k = 2
    · rw [if_pos k2, if_pos hs, hr]; rfl
    rw [if_neg k2]
    by_cases k3 : k = 3
    · rw [if_pos k3, if_pos hs, hr]; rfl
    rw [if_neg k3]; simp [k0, k1, k2, k3]
  · rw [if_neg hs]
    simp [hs]

theorem isB_below {T e : TypeId} {B b : Nat} {bs : List Value} {w w' : World} (h : Lib.IsBuilderF T e B b bs w) (hb : Below w.heap.size w w') : Lib.IsBuilderF T e B b bs w' :=
  h.elim (fun x => .inl (builder_below x hb)) (fun x => .inr (builder_below x hb))
theorem box_cells {wr w5 : World} {c0 c1 c2 : Value} {T : TypeId} (hb : Below (wr.alloc (.cells #[c0, c1, c2] T)).heap.size (wr.alloc (.cells #[c0, c1, c2] T)) w5) :
    w5.cell? ⟨wr.heap.size, 0, none⟩ = some c0 ∧ w5.cell? ⟨wr.heap.size, 1, none⟩ = some c1 ∧ w5.cell? ⟨wr.heap.size, 2, none⟩ = some c2 := by
  have h := (hb.block wr.heap.size (by simp)).trans (heap_alloc_new wr _)
  refine ⟨?_, ?_, ?_⟩ <;> (rw [Lib.cell_of_heap h]; rfl)
theorem rd_mem (l : List S32) (i : Nat) (h : i < l.length) : rd_T32 l i ∈ l ∧ l.take (i + 1) = l.take i ++ [rd_T32 l i] := by
  have e : rd_T32 l i = l[i] := by simp [rd_T32, List.getD, List.getElem?_eq_getElem h]
  rw [e]
  exact ⟨List.getElem_mem h, List.take_succ_eq_append_getElem h⟩

set_option maxRecDepth 100000 in
set_option maxHeartbeats 8000000 in
theorem code_Encode.calls (A0 : Option Addr) (c0 : Nat) (l0 : List S32) (r1 : ByteArray) (r2 : Int) (w : World) (hr0 : Kd.C k32 w A0 l0.length l0) (hc0 : l0.length ≤ c0) (h : code_Encode.f l0 = some (r1, r2)) :
    Calls Tryd.prog 9 #[.slice A0 l0.length c0] w fun e w' => e = .returned (.tuple #[.string r1, .int .i64 r2]) ∧ Below w.heap.size w w' := by
  unfold code_Encode.f at h
  by_cases hok : (l0.all okN && decide (l0.length ≤ 1073741824)) = true
  · rw [if_pos hok] at h
    rw [Bool.and_eq_true, decide_eq_true_eq] at hok
    obtain ⟨hok, hlen⟩ := hok
    have HH := Lib.hid h
    have HOK := Lib.hid hok
    have HR0 := Aside0.mk hr0
    have hu := Tryd.underlying32
    clear h hok hr0
    go_enter Tryd.func9, Tryd.ntmps9
    go_wp2_with fail
    go_loopw [9] (fun v9 wr => ∃ i : Nat, i ≤ l0.length ∧ v9 = .int .i64 i ∧ Hid ((l0.take i).all rightX = true) ∧ Hid (Lib.IsBuilderF 43 5 w.heap.size w.heap.size (Lib.byteCells (encL (l0.take i))) wr) ∧ Hid (Below w.heap.size w wr)) (fun v9 _ => l0.length - (intOf v9).toNat)
    case atStart =>
      refine ⟨0, Nat.zero_le _, rfl, by simp [Hid], ?_, ?_⟩
      · show Lib.IsBuilderF _ _ _ _ _ _
        exact .inl (Lib.BuilderAtF.of ⟨Nat.le_refl _, _, heap_alloc_new w _, own_nil _ _ _ _, by simp [Value.ownBlock]⟩)
      · exact (Below.refl _ _).alloc (Nat.le_refl _) _
    case round =>
      obtain ⟨i, hi, rfl, hall, hb, hB⟩ := hrel
      by_cases hlt : i < l0.length
      · obtain ⟨ad, e0, x0, x1, x2⟩ := at_T32 HR0.out (i : Int) (by omega) (by omega)
        cases e0
        simp only [Int.toNat_natCast] at x0 x1 x2
        replace x0 := (hB.out.cell (World.block_lt_of_cell? w _ x0)).trans x0
        replace x1 := (hB.out.cell (World.block_lt_of_cell? w _ x1)).trans x1
        replace x2 := (hB.out.cell (World.block_lt_of_cell? w _ x2)).trans x2
        obtain ⟨hmem, htk⟩ := rd_mem l0 i hlt
        have hn : -9223372036854775808 ≤ (rd_T32 l0 i).f1 ∧ (rd_T32 l0 i).f1 ≤ 9223372036854775807 := by
          have := List.all_eq_true.1 HOK.out _ hmem
          simpa [okN] using this
        have hel : (encL (l0.take i)).length ≤ 70368744177664 := by
          have h1 := encL_length _ hall.out
          have h2 : (l0.take i).length ≤ i := List.length_take_le _ _
          omega
        have HMEM := Lib.hid hmem
        have HTK := Lib.hid htk
        have HN := Lib.hid hn
        clear hmem htk hn
        generalize rd_T32 l0 i = X at *
        have HX := Lib.hid (right_any X.f0 X.f1 X.f2)
        by_cases hx : rightV X.f0 X.f1 X.f2 = true
        · have HXT := Lib.hid hx
          have HX2 := Lib.hid (HX.out.trans (by rw [hx]))
          clear hx
          go_wp2_with fail
          refine (value_Right.calls X.f0 X.f1 X.f2 true _ HX2.out).mono ?_
          rintro e w5 ⟨rfl, hb5⟩
          obtain ⟨y0, y1, y2⟩ := box_cells hb5
          have HB5 := Lib.hid hb5
          have hs5 := hb5.size
          clear hb5
          go_wp2_with fail
          refine (one_any w.heap.size w.heap.size (encL (l0.take i)) X.f0 X.f1 X.f2 HXT.out HN.out _ (isB_below (isB_alloc hb.out _) HB5.out) hel ?hBw).mono ?_
          case hBw => have := hB.out.size; have := HB5.out.size; simp at this; omega
          rintro e w6 ⟨rfl, hA6, hb6⟩
          have HA6 := Lib.hid hA6
          have HB6 := Lib.hid hb6
          clear hA6 hb6
          go_wp2_with fail
          go_roundw
          case measure => simp [intOf]; omega
          case rel =>
            refine ⟨i + 1, by omega, by go_num, ?_, ?_, ?_⟩
            · show _ = _
              rw [HTK.out, List.all_append, hall.out]
              simp [rightX, HXT.out]
            · show Lib.IsBuilderF _ _ _ _ _ _
              rw [HTK.out, encL_snoc]
              exact .inr HA6.out
            · exact (below_two (hB.out.alloc hB.out.size _) (Nat.le_refl _) HB5.out).trans HB6.out
        · have hx' : rightV X.f0 X.f1 X.f2 = false := by simpa using hx
          have HX2 := Lib.hid (HX.out.trans (by rw [hx']))
          have hfin : l0.all rightX = false := by
            rw [List.all_eq_false]
            exact ⟨X, HMEM.out, by unfold rightX; rw [hx']; simp⟩
          have HF := Lib.hid hfin
          clear hx hx' hfin
          go_wp2_with fail
          refine (value_Right.calls X.f0 X.f1 X.f2 false _ HX2.out).mono ?_
          rintro e w5 ⟨rfl, hb5⟩
          have HB5 := Lib.hid hb5
          clear hb5
          go_wp2_with fail
          go_ret2
          have h9 := HH.out
          rw [if_neg (by rw [HF.out]; simp)] at h9
          simp only [Option.some.injEq, Prod.mk.injEq] at h9
          obtain ⟨rfl, rfl⟩ := h9
          exact ⟨rfl, below_two (hB.out.alloc hB.out.size _) (Nat.le_refl _) HB5.out⟩
      · have hi' : i = l0.length := by omega
        have h1 : l0.take i = l0 := List.take_of_length_le (by omega)
        have ha := hall.out
        have hb1 := hb.out
        rw [h1] at ha hb1
        have h9 := HH.out
        rw [if_pos ha] at h9
        simp only [Option.some.injEq, Prod.mk.injEq] at h9
        obtain ⟨rfl, rfl⟩ := h9
        have HB1 := Lib.hid hb1
        clear hb1 ha h1 hi'
        go_wp2_with fail
        refine (Tryd.Builder_String_any_f w.heap.size w.heap.size (encL l0) _ HB1.out hB.out.size).mono ?_
        rintro e w5 ⟨rfl, _, hb5⟩
        have HB5 := Lib.hid hb5
        clear hb5
        go_wp2_with fail
        go_ret2
        exact ⟨rfl, hB.out.trans HB5.out⟩
  · rw [if_neg hok] at h; cases h
end Go.Proofs.YtknkaaleafiifaaDoor
