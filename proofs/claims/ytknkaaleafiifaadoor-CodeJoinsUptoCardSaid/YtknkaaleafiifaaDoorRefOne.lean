/- The reference's bytes of one right value, proved by hand; the value right. -/
import Derived.Test.YtknkaaleafiifaaDoorOne
import Derived.Test.YtknkaaleafiifaaDoorCodeFn
namespace Go.Proofs.YtknkaaleafiifaaDoor
open Go.RowKit Go.Proofs.YtknkaaleafiifaaDoorW.PrintWords

def inRange (k n : Int) (s : ByteArray) : Bool := rightV k n s && (decide (-9223372036854775808 ≤ n) && decide (n ≤ 9223372036854775807))
def instarref04_One.f (a0_0 a0_1 : Int) (a0_2 : ByteArray) : Option ByteArray := if inRange a0_0 a0_1 a0_2 = true then some ⟨(oneL a0_0 a0_1 a0_2.data.toList).toArray⟩ else none
theorem ret_s {a b : ByteArray} (h : a = b) : Ending.returned (.string a) = .returned (.string b) := by rw [h]
theorem strOf_one (c : UInt8) (x : Int) (h : UInt8.ofNat x.toNat = c) : strOfNums [x] = ⟨#[c]⟩ := by simp [strOfNums, h]
theorem addable {a b : Nat} (h : a + b ≤ 1000000) : (a + b ≤ 9223372036854775807) = True ∧ (9223372036854775807 < a + b) = False := ⟨eq_true (by omega), eq_false (by omega)⟩
theorem data_ext {a b : ByteArray} (h : a.data.toList = b.data.toList) : a = b := by
  cases a; cases b; simp at h; simp [h]

set_option maxRecDepth 100000 in
set_option maxHeartbeats 4000000 in
theorem refone_null (n : Int) (s : ByteArray) (w : World) :
    Calls Tryd.prog 19 #[.agg #[.int .i64 0, .int .i64 n, .string s]] w fun e w' => e = .returned (.string ⟨#[0]⟩) ∧ Below w.heap.size w w' := by
  go_enter Tryd.func19, Tryd.ntmps19
  go_wp2_with fail
  rw [run_convert_bytes_arg _ 41 5 Tryd.underlying41 Tryd.underlying5 (w.heap.size + 1) 0 1 1 [0] rfl (by intro i hi; match i, hi with | 0, _ => simp [go_sem]) 9 Tryd.underlying9]
  rw [strOf_one 0 0 rfl]
  go_wp2_with fail
  go_ret
  exact ⟨rfl, by go_grown⟩

set_option maxRecDepth 100000 in
set_option maxHeartbeats 4000000 in
theorem refone_bool (n : Int) (hn0 : 0 ≤ n) (hn1 : n ≤ 1) (s : ByteArray) (w : World) :
    Calls Tryd.prog 19 #[.agg #[.int .i64 1, .int .i64 n, .string s]] w fun e w' => e = .returned (.string ⟨#[1, UInt8.ofNat n.toNat]⟩) ∧ Below w.heap.size w w' := by
  go_enter Tryd.func19, Tryd.ntmps19
  go_wp2_with fail
  rw [run_convert_bytes_arg _ 41 5 Tryd.underlying41 Tryd.underlying5 (w.heap.size + 1) 0 1 1 [1] rfl (by intro i hi; match i, hi with | 0, _ => simp [go_sem]) 9 Tryd.underlying9]
  rw [strOf_one 1 1 rfl]
  go_wp2_with fail
  rw [run_convert_bytes_arg _ 41 5 Tryd.underlying41 Tryd.underlying5 (w.heap.size + 2) 0 1 1 [n] rfl (by intro i hi; match i, hi with | 0, _ => simp [go_sem]) 9 Tryd.underlying9]
  rw [strOf_one (UInt8.ofNat n.toNat) n rfl]
  go_wp2_with fail
  go_ret
  exact ⟨ret_s rfl, by go_grown⟩

set_option maxRecDepth 100000 in
set_option maxHeartbeats 4000000 in
theorem refone_int32 (n : Int) (hn : -2147483648 ≤ n ∧ n ≤ 2147483647) (s : ByteArray) (w : World) :
    Calls Tryd.prog 19 #[.agg #[.int .i64 2, .int .i64 n, .string s]] w fun e w' => e = .returned (.string ⟨(2 :: bytesU ((putBytes (n + 2147483648)).drop 4)).toArray⟩) ∧ Below w.heap.size w w' := by
  obtain ⟨hn0, hn1⟩ := hn
  go_enter Tryd.func19, Tryd.ntmps19
  go_wp2_with fail
  rw [run_convert_bytes_arg _ 41 5 Tryd.underlying41 Tryd.underlying5 (w.heap.size + 1) 0 1 1 [2] rfl (by intro i hi; match i, hi with | 0, _ => simp [go_sem]) 9 Tryd.underlying9]
  rw [strOf_one 2 2 rfl]
  go_wp2_with fail
  refine (Kp.instarref01_Put.calls (0 + 20) (n + 2147483648) (strOfNums (putBytes (n + 2147483648))) _ (NumFn.refput_f 0 (n + 2147483648) (by omega))).mono ?_
  rintro e w2 ⟨rfl, hb2⟩
  have hz : (strOfNums (putBytes (n + 2147483648))).size = 8 := by rw [strOfNums_size]; rfl
  have h9 : ((⟨#[2]⟩ : ByteArray) ++ (strOfNums (putBytes (n + 2147483648))).extract 4 8) = ⟨(2 :: bytesU ((putBytes (n + 2147483648)).drop 4)).toArray⟩ := by
    apply data_ext
    simp [strOfNums, putBytes, bytesU]
  generalize strOfNums (putBytes (n + 2147483648)) = S at *
  have H9 := Lib.hid h9
  have HB2 := Lib.hid hb2
  clear hb2 h9
  go_wp2_with fail
  go_ret
  exact ⟨ret_s H9.out, ((((Below.refl _ _).alloc (Nat.le_refl _) _).alloc (by simp) _).trans (HB2.out.mono (by simp; omega)))⟩

set_option maxRecDepth 100000 in
set_option maxHeartbeats 4000000 in
theorem refone_int64 (n : Int) (hn : -9223372036854775808 ≤ n ∧ n ≤ 9223372036854775807) (s : ByteArray) (w : World) :
    Calls Tryd.prog 19 #[.agg #[.int .i64 3, .int .i64 n, .string s]] w fun e w' => e = .returned (.string ⟨(3 :: bytesU (putBytes (n + 9223372036854775808))).toArray⟩) ∧ Below w.heap.size w w' := by
  have H64 := Lib.hid hn
  clear hn
  go_enter Tryd.func19, Tryd.ntmps19
  go_wp2_with fail
  rw [run_convert_bytes_arg _ 41 5 Tryd.underlying41 Tryd.underlying5 (w.heap.size + 1) 0 1 1 [3] rfl (by intro i hi; match i, hi with | 0, _ => simp [go_sem]) 9 Tryd.underlying9]
  rw [strOf_one 3 3 rfl]
  go_wp2_with fail
  refine (Kp.instarref01_Flip.calls n (NumFn.flp n) _ (NumFn.refflip_f n H64.out)).mono ?_
  rintro e w2 ⟨rfl, ⟨nd, rfl⟩⟩
  have hp := NumFn.refput_f 0 (NumFn.flp n) (by have := H64.out; unfold NumFn.flp; omega)
  have hx : NumFn.flp n = n + 9223372036854775808 := rfl
  have hz : (strOfNums (putBytes (n + 9223372036854775808))).size = 8 := by rw [strOfNums_size]; rfl
  have h9 : ((⟨#[3]⟩ : ByteArray) ++ strOfNums (putBytes (n + 9223372036854775808))) = ⟨(3 :: bytesU (putBytes (n + 9223372036854775808))).toArray⟩ := by
    apply data_ext
    simp [strOfNums, putBytes, bytesU]
  rw [← hx] at hz h9
  generalize strOfNums (putBytes (NumFn.flp n)) = S at *
  have HX := Lib.hid hx
  generalize NumFn.flp n = X at *
  have H9 := Lib.hid h9
  have HP := Lib.hid hp
  clear h9 hp hx
  go_wp2_with fail
  refine (Kp.instarref01_Put.calls (0 + 20) X S _ HP.out).mono ?_
  rintro e w2 ⟨rfl, hb2⟩
  have HB2 := Lib.hid hb2
  clear hb2
  go_wp2_with fail
  go_ret
  exact ⟨ret_s (by rw [← HX.out]; exact H9.out), (pw_below_drewN (((Below.refl _ _).alloc (Nat.le_refl _) _).alloc (by simp) _) nd).trans (HB2.out.mono (by simp; omega))⟩

set_option maxRecDepth 100000 in
set_option maxHeartbeats 4000000 in
theorem refone_text (s : ByteArray) (hs : s.size ≤ 200) (w : World) :
    Calls Tryd.prog 19 #[.agg #[.int .i64 4, .int .i64 0, .string s]] w fun e w' => e = .returned (.string ⟨(4 :: (esc s.data.toList ++ [0, 0])).toArray⟩) ∧ Below w.heap.size w w' := by
  go_enter Tryd.func19, Tryd.ntmps19
  go_wp2_with fail
  rw [run_convert_bytes_arg _ 41 5 Tryd.underlying41 Tryd.underlying5 (w.heap.size + 1) 0 1 1 [4] rfl (by intro i hi; match i, hi with | 0, _ => simp [go_sem]) 9 Tryd.underlying9]
  rw [strOf_one 4 4 rfl]
  go_wp2_with fail
  go_loop [3, 4] (fun v3 v4 => ∃ (i : Nat) (S : ByteArray), i ≤ s.size ∧ v4 = .int .i64 i ∧ v3 = .string S ∧ S.size ≤ 1 + 2 * i ∧ Hid (S.data.toList = 4 :: esc (s.data.toList.take i))) (fun _ v4 => s.size - (intOf v4).toNat)
  case atStart => exact ⟨0, ⟨#[4]⟩, Nat.zero_le _, rfl, rfl, by decide, by simp [Hid, esc]⟩
  case round =>
    obtain ⟨i, S, hi, rfl, rfl, hS, hD⟩ := hrel
    by_cases hlt : i < s.size
    · have hx : (s.extract i (i + 1)).size = 1 := by simp only [ByteArray.size_extract]; omega
      have hy : (s.extract i (i + 1)).data.toList = [s[i]] := by
        rw [Lib.extract_data, show i + 1 - i = 1 by omega, List.drop_eq_getElem_cons (by simpa using hlt)]
        rfl
      have hts : s.data.toList.take (i + 1) = s.data.toList.take i ++ [s[i]] := by
        rw [List.take_succ_eq_append_getElem (by simpa using hlt)]; rfl
      have HY := Lib.hid hy
      have HT := Lib.hid hts
      clear hy hts
      obtain ⟨X, hX⟩ : ∃ X, s.extract i (i + 1) = X := ⟨_, rfl⟩
      rw [hX] at hx HY
      obtain ⟨c1, c2⟩ := addable (a := S.size) (b := 1) (by omega)
      obtain ⟨c3, c4⟩ := addable (a := S.size + 1) (b := 1) (by omega)
      by_cases hz : s[i] = 0
      · have z1 : (((s[i]).toNat : Int) == 0) = true := by rw [hz]; rfl
        have HZ := Lib.hid hz
        clear hz
        go_wp2
        go_round
        case measure => simp [intOf]; omega
        case rel =>
          refine ⟨i + 1, S ++ X ++ ⟨#[255]⟩, by omega, by go_num, rfl, ?_, ?_⟩
          · have h4 : (⟨#[255]⟩ : ByteArray).size = 1 := rfl
            rw [ByteArray.size_append, ByteArray.size_append, hx, h4]; omega
          · show _ = _
            rw [HT.out, esc_append, ByteArray.data_append, ByteArray.data_append, Array.toList_append, Array.toList_append, hD.out, HY.out, HZ.out]
            simp [esc]
      · have z1 : (((s[i]).toNat : Int) == 0) = false := by
          apply beq_eq_false_iff_ne.2
          intro e
          exact hz (UInt8.toNat_inj.1 (by have e2 : (0 : UInt8).toNat = 0 := rfl; omega))
        have HZ := Lib.hid hz
        clear hz
        go_wp2
        go_round
        case measure => simp [intOf]; omega
        case rel =>
          refine ⟨i + 1, S ++ X, by omega, by go_num, rfl, ?_, ?_⟩
          · rw [ByteArray.size_append, hx]; omega
          · show _ = _
            rw [HT.out, esc_append, ByteArray.data_append, Array.toList_append, hD.out, HY.out]
            simp [esc, HZ.out]
    · have hi' : i = s.size := by omega
      obtain ⟨c1, c2⟩ := addable (a := S.size) (b := 2) (by omega)
      have HI := Lib.hid hi'
      clear hi'
      go_wp2
      go_ret
      refine ⟨ret_s (data_ext ?_), by go_grown⟩
      have e : s.data.toList.take i = s.data.toList := List.take_of_length_le (by rw [HI.out, Array.length_toList]; exact Nat.le_refl _)
      rw [ByteArray.data_append, Array.toList_append, hD.out, e]
      simp

theorem instarref04_One.calls (a0_0 a0_1 : Int) (a0_2 : ByteArray) (r : ByteArray) (w : World) (h : instarref04_One.f a0_0 a0_1 a0_2 = some r) :
    Calls Tryd.prog 19 #[.agg #[.int .i64 a0_0, .int .i64 a0_1, .string a0_2]] w fun e w' => e = .returned (.string r) ∧ Below w.heap.size w w' := by
  unfold instarref04_One.f at h
  by_cases hi : inRange a0_0 a0_1 a0_2 = true
  · rw [if_pos hi] at h
    obtain rfl := Option.some.inj h
    simp only [inRange, Bool.and_eq_true, decide_eq_true_eq] at hi
    obtain ⟨hr, hn⟩ := hi
    unfold rightV at hr
    by_cases k4 : a0_0 = 4
    · subst k4
      simp only [if_true, Bool.and_eq_true, decide_eq_true_eq] at hr
      obtain ⟨rfl, h2⟩ := hr
      exact refone_text a0_2 (by omega) w
    · rw [if_neg k4] at hr
      by_cases hs : a0_2.toList = []
      · rw [if_pos hs] at hr
        by_cases k0 : a0_0 = 0
        · subst k0; exact refone_null a0_1 a0_2 w
        rw [if_neg k0] at hr
        by_cases k1 : a0_0 = 1
        · subst k1
          simp only [if_true, Bool.or_eq_true, decide_eq_true_eq] at hr
          exact refone_bool a0_1 (by omega) (by omega) a0_2 w
        rw [if_neg k1] at hr
        by_cases k2 : a0_0 = 2
        · subst k2
          simp only [if_true, Bool.and_eq_true, decide_eq_true_eq] at hr
          exact refone_int32 a0_1 hr a0_2 w
        rw [if_neg k2] at hr
        have k3 : a0_0 = 3 := by simpa using hr
        subst k3
        exact refone_int64 a0_1 hn a0_2 w
      · rw [if_neg hs] at hr; cases hr
  · rw [if_neg hi] at h; cases h
end Go.Proofs.YtknkaaleafiifaaDoor
