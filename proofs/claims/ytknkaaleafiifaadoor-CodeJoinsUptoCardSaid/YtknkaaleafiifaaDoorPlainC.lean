/- Plain laws of the code: bytes are decoded to the values they are of, the document's answer is the code's, what is alive; CodeEncodes and CodeBack come to true; no program in sight. -/
import Derived.Test.YtknkaaleafiifaaDoorPlainB
set_option linter.unusedVariables false
set_option linter.unusedSimpArgs false
namespace Go.Proofs.YtknkaaleafiifaaDoor
open Go.RowKit Go.Proofs.YtknkaaleafiifaaDoorW.PrintWords Go.Proofs.YtknkaaleafiifaaDoor.Kp Go.Proofs.YtknkaaleafiifaaDoor.Hp

def okR (l : List S32) : Prop := ∀ x ∈ l, okN x = true ∧ rightX x = true
theorem okN_iff (x : S32) : okN x = true ↔ -9223372036854775808 ≤ x.f1 ∧ x.f1 ≤ 9223372036854775807 := by simp [okN]
theorem okR_all {l : List S32} (h : okR l) : l.all okN = true ∧ l.all rightX = true := ⟨List.all_eq_true.2 fun x hx => (h x hx).1, List.all_eq_true.2 fun x hx => (h x hx).2⟩
theorem okR_of {l : List S32} (h : l.all okN = true) (h2 : l.all rightX = true) : okR l := fun x hx => ⟨List.all_eq_true.1 h x hx, List.all_eq_true.1 h2 x hx⟩
theorem back_s (x : S32) : (⟨x.f0, x.f1, ⟨x.f2.data.toList.toArray⟩⟩ : S32) = x := by
  obtain ⟨a, b, ⟨c⟩⟩ := x; simp
theorem first_val (x : S32) (r : List UInt8) (h : okN x = true ∧ rightX x = true) : firstL (encX x ++ r) = some (x.f0, x.f1, x.f2.data.toList, (encX x).length) :=
  first_one _ _ _ r ((right_iff x).1 h.2) ((okN_iff x).1 h.1)
theorem encX_pos (x : S32) : 1 ≤ (encX x).length := oneL_pos _ _ _
theorem encL_cons (x : S32) (l : List S32) : encL (x :: l) = encX x ++ encL l := rfl
theorem encL_app (a b : List S32) : encL (a ++ b) = encL a ++ encL b := by simp [encL]
theorem encode_f {l : List S32} (h : okR l) (hl : l.length ≤ 1073741824) : code_Encode.f l = some (⟨(encL l).toArray⟩, 0) := by
  unfold code_Encode.f
  rw [if_pos (by rw [(okR_all h).1]; simpa using hl), if_pos (okR_all h).2]
theorem encode_not {l : List S32} (h : l.all okN = true) (h2 : l.all rightX ≠ true) (hl : l.length ≤ 1073741824) : code_Encode.f l = some (⟨#[]⟩, 1) := by
  unfold code_Encode.f
  rw [if_pos (by rw [h]; simpa using hl), if_neg h2]
theorem tl2 (s : ByteArray) : s.toList = s.data.toList := ByteArray.toList_eq s

theorem firstR_some (k n : Int) (t : List UInt8) (m : Nat) : firstR (some (k, n, t, m)) = (k, n, ⟨t.toArray⟩, (m : Int)) := rfl
theorem firstR_none : firstR none = (0, 0, ⟨#[]⟩, -1) := rfl
theorem decode_enc : ∀ (l acc : List S32) (s : ByteArray) (K : Nat), okR l → s.data.toList = encL l → (encL l).length ≤ 1099511627776 → acc.length + l.length < 4398046511104 → l.length < K →
    code_Decode.l0 K s acc = some (acc ++ l, 0) := by
  intro l
  induction l with
  | nil =>
    intro acc s K _ hs _ _ hK
    obtain ⟨k, rfl⟩ : ∃ k, K = k + 1 := ⟨K - 1, by omega⟩
    rw [code_Decode.l0, if_pos (by rw [tl2, hs]; rfl), List.append_nil]
  | cons x l ih =>
    intro acc s K hr hs hz hn hK
    simp only [List.length_cons] at hn hK
    obtain ⟨k, rfl⟩ : ∃ k, K = k + 1 := ⟨K - 1, by omega⟩
    have hp := encX_pos x
    have hsz : s.size = (encX x).length + (encL l).length := by rw [size_toList, hs, encL_cons, List.length_append]
    rw [encL_cons, List.length_append] at hz
    have hne : ¬ s.toList = ([] : List UInt8) := by
      rw [tl2, hs, encL_cons]
      intro e
      have := congrArg List.length e
      rw [List.length_append] at this
      simp only [List.length_nil] at this
      omega
    rw [code_Decode.l0, if_neg hne, first_f s _ hs (by rw [encL_cons, List.length_append]; omega), bnd, encL_cons, first_val x _ (hr x (.head _)), firstR_some]
    simp only []
    rw [if_neg (by omega), if_pos (by omega), if_pos (by omega), if_pos (by omega), Int.toNat_natCast, back_s]
    rw [ih (acc ++ [x]) _ k (fun y hy => hr y (.tail _ hy)) (by rw [extract_toList, hs, encL_cons, List.drop_left]) (by omega) (by simp; omega) (by omega)]
    simp
theorem decode_any : ∀ (m : Nat) (s : ByteArray) (acc : List S32) (K : Nat), s.data.toList.length ≤ m → m ≤ 1000000 → acc.length + m < 4398046511104 → m < K →
    (∃ l, okR l ∧ s.data.toList = encL l ∧ l.length ≤ m ∧ code_Decode.l0 K s acc = some (acc ++ l, 0)) ∨ code_Decode.l0 K s acc = some ([], 41) := by
  intro m
  induction m with
  | zero =>
    intro s acc K hs _ _ hK
    obtain ⟨k, rfl⟩ : ∃ k, K = k + 1 := ⟨K - 1, by omega⟩
    have e : s.data.toList = [] := List.eq_nil_of_length_eq_zero (by omega)
    exact .inl ⟨[], fun x hx => (by cases hx), e, Nat.le_refl _, by rw [code_Decode.l0, if_pos (by rw [tl2, e]), List.append_nil]⟩
  | succ m ih =>
    intro s acc K hs hm hn hK
    obtain ⟨k, rfl⟩ : ∃ k, K = k + 1 := ⟨K - 1, by omega⟩
    by_cases e : s.data.toList = []
    · exact .inl ⟨[], fun x hx => (by cases hx), e, Nat.zero_le _, by rw [code_Decode.l0, if_pos (by rw [tl2, e]), List.append_nil]⟩
    · have hf := first_f s _ rfl (by omega)
      cases hL : firstL s.data.toList with
      | none =>
        right
        rw [code_Decode.l0, if_neg (by rw [tl2]; exact e), hf, bnd, hL, firstR_none]
        simp only []
        rw [if_pos (by decide)]
      | some x =>
        obtain ⟨c, n, t, p⟩ := x
        obtain ⟨hr, hn2, hp, r, hsr⟩ := first_back _ _ _ _ _ hL
        have hp1 := oneL_pos c n t
        have hz : s.size = (oneL c n t).length + r.length := by rw [size_toList, hsr, List.length_append]
        have hz2 : s.data.toList.length = s.size := (size_toList s).symm
        have hd : (s.extract p s.size).data.toList = r := by rw [extract_toList, hsr, hp, List.drop_left]
        have step : code_Decode.l0 (k + 1) s acc = code_Decode.l0 k (s.extract p s.size) (acc ++ [⟨c, n, ⟨t.toArray⟩⟩]) := by
          rw [code_Decode.l0, if_neg (by rw [tl2]; exact e), hf, bnd, hL, firstR_some]
          simp only []
          rw [if_neg (by omega), if_pos (by omega), if_pos (by omega), if_pos (by omega), Int.toNat_natCast]
        have okx : okN (⟨c, n, ⟨t.toArray⟩⟩ : S32) = true ∧ rightX (⟨c, n, ⟨t.toArray⟩⟩ : S32) = true :=
          ⟨(okN_iff _).2 hn2, (right_iff _).2 (by simpa using hr)⟩
        have hex : encX (⟨c, n, ⟨t.toArray⟩⟩ : S32) = oneL c n t := by simp [encX]
        rcases ih (s.extract p s.size) (acc ++ [⟨c, n, ⟨t.toArray⟩⟩]) k (by rw [hd]; omega) (by omega) (by simp; omega) (by omega) with ⟨l, h1, h2, h3, h4⟩ | h
        · left
          refine ⟨⟨c, n, ⟨t.toArray⟩⟩ :: l, ?_, ?_, by simp; omega, ?_⟩
          · intro y hy
            rcases List.mem_cons.1 hy with rfl | hy
            · exact okx
            · exact h1 y hy
          · rw [encL_cons, hex, ← h2, hd]; exact hsr
          · rw [step, h4]; simp
        · right; rw [step, h]

theorem alive_ok : okR aliveV := by
  intro x hx
  simp only [aliveV, List.mem_cons, List.not_mem_nil, or_false] at hx
  rcases hx with rfl | rfl | rfl
  · exact ⟨by decide, (right_iff _).2 (.inr ⟨rfl, .inl ⟨rfl, rfl⟩⟩)⟩
  · exact ⟨by decide, (right_iff _).2 (.inr ⟨rfl, .inr (.inr (.inl ⟨rfl, by decide, by decide⟩))⟩)⟩
  · exact ⟨by decide, (right_iff _).2 (.inl ⟨rfl, rfl, by decide⟩)⟩
theorem alive_bytes : encL aliveV = [0, 2, 127, 255, 255, 255, 4, 97, 0, 255, 0, 0] := by decide
theorem alive_f (K : Nat) (hK : 4 ≤ K) : instarlaw04_alive.f K = some true := by
  have e := alive_enc
  have d : code_Decode.f K aliveB = some ([] ++ aliveV, 0) := decode_enc aliveV [] aliveB K alive_ok (by rw [alive_bytes]; rfl) (by rw [alive_bytes]; decide) (by decide) (by show 3 < K; omega)
  have sk : code_Skip.f (aliveB.extract 1 aliveB.size) = some (5, 0) := by
    unfold code_Skip.f
    have hd : (aliveB.extract 1 aliveB.size).data.toList = encX ⟨2, -1, ⟨#[]⟩⟩ ++ [4, 97, 0, 255, 0, 0] := by rw [extract_toList]; decide
    rw [first_f _ _ hd (by decide), bnd, first_val _ _ (alive_ok ⟨2, -1, ⟨#[]⟩⟩ (by simp [aliveV])), firstR_some]
    have hl : (encX ⟨2, -1, ⟨#[]⟩⟩).length = 5 := by decide
    simp only [hl]
    rw [if_pos (by decide)]
    rfl
  unfold aliveV at e
  unfold instarlaw04_alive.f
  rw [e, bnd]
  simp only []
  rw [if_pos (by decide), d, bnd]
  simp only [List.nil_append]
  rw [if_pos (by decide), sk, bnd]
  simp only []
  rw [if_pos (by rw [tl2]; rfl), if_pos trivial, if_pos trivial, if_pos (by decide), if_pos trivial]
  rfl

theorem refenc (l : List S32) (ho : l.all okN = true) : ∀ (m i : Nat) (acc : ByteArray) (K : Nat), i + m = l.length → acc.size + 403 * m ≤ 1152921504606846976 → m ≤ 1000000 → l.length ≤ 1000000 → m < K →
    ((l.drop i).all rightX = true → ∃ z : ByteArray, instarref04_Encode.l0 K l acc i = some (z, 0) ∧ z.data.toList = acc.data.toList ++ encL (l.drop i)) ∧
    ((l.drop i).all rightX ≠ true → instarref04_Encode.l0 K l acc i = some (⟨#[]⟩, 1)) := by
  intro m
  induction m with
  | zero =>
    intro i acc K hi _ _ _ hK
    obtain ⟨k, rfl⟩ : ∃ k, K = k + 1 := ⟨K - 1, by omega⟩
    have hd : l.drop i = [] := List.drop_eq_nil_of_le (by omega)
    rw [hd]
    exact ⟨fun _ => ⟨acc, by rw [instarref04_Encode.l0, if_neg (by omega)], by simp [encL]⟩, fun h => absurd rfl h⟩
  | succ m ih =>
    intro i acc K hi hz hm hib hK
    obtain ⟨k, rfl⟩ : ∃ k, K = k + 1 := ⟨K - 1, by omega⟩
    obtain ⟨hmem, _⟩ := rd_mem l i (by omega)
    have hd : l.drop i = rd_T32 l i :: l.drop (i + 1) := by
      rw [List.drop_eq_getElem_cons (by omega)]
      congr 1
      simp [rd_T32, List.getD, List.getElem?_eq_getElem (show i < l.length by omega)]
    generalize hx : rd_T32 l i = x at *
    have hox := List.all_eq_true.1 ho x hmem
    rw [hd, List.all_cons]
    by_cases hr : rightX x = true
    · rw [hr, Bool.true_and]
      have hle : (encX x).length ≤ 403 := oneL_length hr
      have ho2 := (okN_iff x).1 hox
      have h1 : instarref04_One.f x.f0 x.f1 x.f2 = some ⟨(encX x).toArray⟩ := by
        unfold instarref04_One.f
        rw [if_pos]
        · rfl
        · unfold inRange
          have hr2 : rightV x.f0 x.f1 x.f2 = true := hr
          rw [hr2]
          simpa using ho2
      have hsz : (⟨(encX x).toArray⟩ : ByteArray).size = (encX x).length := by rw [size_toList]
      have step : instarref04_Encode.l0 (k + 1) l acc i = instarref04_Encode.l0 k l (acc ++ ⟨(encX x).toArray⟩) (i + 1 : Nat) := by
        rw [instarref04_Encode.l0, if_pos (by omega), if_pos (by omega), hx]
        have hr2 : instarref03_Right.f x.f0 x.f1 x.f2 = some true := congrArg some hr
        rw [hr2, bnd, if_pos rfl, h1, bnd, if_pos (by omega)]
        rw [show wrap64 ((i : Int) + 1) = ((i + 1 : Nat) : Int) by unfold wrap64; omega]
      have happ : (acc ++ (⟨(encX x).toArray⟩ : ByteArray)).data.toList = acc.data.toList ++ encX x := by simp
      have happz : (acc ++ (⟨(encX x).toArray⟩ : ByteArray)).size = acc.size + (encX x).length := by rw [size_toList, happ, List.length_append, ← size_toList]
      obtain ⟨a, b⟩ := ih (i + 1) (acc ++ ⟨(encX x).toArray⟩) k (by omega) (by omega) (by omega) (by omega) (by omega)
      refine ⟨fun h => ?_, fun h => by rw [step]; exact b h⟩
      obtain ⟨z, e1, e2⟩ := a h
      exact ⟨z, by rw [step]; exact e1, by rw [e2, happ, encL_cons, List.append_assoc]⟩
    · refine ⟨fun h => absurd ((Bool.and_eq_true _ _).mp h).1 hr, fun _ => ?_⟩
      rw [instarref04_Encode.l0, if_pos (by omega), if_pos (by omega), hx]
      have hr2 : instarref03_Right.f x.f0 x.f1 x.f2 = some false := congrArg some (Bool.eq_false_iff.2 hr)
      rw [hr2, bnd, if_neg (by decide)]

/-- CodeEncodes comes to true. -/
theorem encodes_pure (l : List S32) (ho : l.all okN = true) : ∃ K, instarlaw04_CodeEncodes.f K l = some true := by
  obtain ⟨b, hf, hb⟩ := fits_f l
  refine ⟨100, ?_⟩
  unfold instarlaw04_CodeEncodes.f
  rw [hf 78, bnd]
  cases b with
  | false => rw [if_neg (by decide), alive_f 100 (by decide), bnd]
  | true =>
    have hl := hb rfl
    obtain ⟨h1, h2⟩ := refenc l ho l.length 0 ⟨#[]⟩ 100 (by omega) (by show 0 + 403 * l.length ≤ _; omega) (by omega) (by omega) (by omega)
    rw [if_pos rfl]
    by_cases hr : l.all rightX = true
    · obtain ⟨z, e1, e2⟩ := h1 hr
      have e1' : instarref04_Encode.f 100 l = some (z, 0) := e1
      rw [encode_f (okR_of ho hr) (by omega), bnd, e1', bnd, alive_f 100 (by decide), bnd, if_pos rfl, if_pos (by rw [tl2, tl2, e2]; simp)]
      rfl
    · have e1' : instarref04_Encode.f 100 l = some (⟨#[]⟩, 1) := h2 hr
      rw [encode_not ho hr (by omega), bnd, e1', bnd, alive_f 100 (by decide), bnd, if_pos rfl, if_pos rfl]
      rfl

theorem same_self (l : List S32) : ∀ (m i K : Nat), i + m = l.length → l.length ≤ 1000000 → m ≤ 1000000 → m < K → instarref04_Same.l0 K l l i = some true := by
  intro m
  induction m with
  | zero =>
    intro i K hi _ _ hK
    obtain ⟨k, rfl⟩ : ∃ k, K = k + 1 := ⟨K - 1, by omega⟩
    rw [instarref04_Same.l0, if_neg (by omega)]
  | succ m ih =>
    intro i K hi hb hm hK
    obtain ⟨k, rfl⟩ : ∃ k, K = k + 1 := ⟨K - 1, by omega⟩
    rw [instarref04_Same.l0, if_pos (by omega), if_pos (by omega), if_pos (by omega), if_neg (by simp)]
    rw [show wrap64 ((i : Int) + 1) = ((i + 1 : Nat) : Int) by unfold wrap64; omega]
    exact ih (i + 1) k (by omega) (by omega) (by omega) (by omega)

theorem encL_len20 {l : List S32} (h : okR l) (hl : l.length ≤ 1000) : (encL l).length ≤ 403000 := by
  have := encL_length l (okR_all h).2
  omega

theorem back_j2 (s : ByteArray) (hs : s.size ≤ 600) : instarlaw04_CodeBack.j2 2000 s false = some true := by
  have hz : s.data.toList.length ≤ 600 := by rw [← size_toList]; exact hs
  rw [instarlaw04_CodeBack.j2, if_neg (by decide)]
  rcases decode_any 600 s [] 1999 hz (by decide) (by decide) (by decide) with ⟨l, h1, h2, h3, h4⟩ | h
  · have e : code_Decode.f 1999 s = some ([] ++ l, 0) := h4
    rw [e, bnd]
    simp only [List.nil_append]
    rw [encode_f h1 (by omega), bnd, alive_f 1999 (by decide), bnd, if_pos rfl]
    simp only []
    rw [if_pos trivial, if_pos trivial, tl2, tl2, h2]
    simp
  · have e : code_Decode.f 1999 s = some ([], 41) := h
    rw [e, bnd]
    simp only []
    rw [encode_f (l := []) (fun x hx => by cases hx) (by decide), bnd, alive_f 1999 (by decide), bnd, if_pos rfl]
    simp only []
    rw [if_neg (by decide)]

theorem back_l0 (l : List S32) (ho : l.all okN = true) (hl : l.length ≤ 20) (s : ByteArray) (hs : s.size ≤ 600) : ∀ (m i : Nat), i + m = l.length →
    instarlaw04_CodeBack.l0 (2001 + m) l s ((l.take i).all rightX) i = some true := by
  intro m
  induction m with
  | zero =>
    intro i hi
    have ht : l.take i = l := List.take_of_length_le (by omega)
    rw [ht]
    rw [show 2001 + 0 = 2000 + 1 from rfl, instarlaw04_CodeBack.l0, if_neg (by omega)]
    by_cases hr : l.all rightX = true
    · have hR := okR_of ho hr
      have hlen := encL_len20 hR (by omega)
      have e : code_Decode.f 2000 ⟨(encL l).toArray⟩ = some ([] ++ l, 0) := decode_enc l [] _ 2000 hR (by simp) (by omega) (by simp; omega) (by omega)
      rw [encode_f hR (by omega), bnd]
      simp only []
      rw [e, bnd]
      simp only [List.nil_append]
      have es : instarref04_Same.f 2000 l l = some true := by
        unfold instarref04_Same.f
        rw [if_pos rfl]
        exact same_self l l.length 0 2000 (by omega) (by omega) (by omega) (by omega)
      rw [if_pos hr, if_pos trivial, if_pos trivial, es, bnd, if_pos rfl]
      exact back_j2 s hs
    · have e : code_Decode.f 2000 ⟨#[]⟩ = some ([] ++ [], 0) := decode_enc [] [] _ 2000 (fun x hx => by cases hx) rfl (by decide) (by decide) (by decide)
      rw [encode_not ho hr (by omega), bnd]
      simp only []
      rw [e, bnd]
      simp only [List.nil_append]
      rw [if_neg hr, if_pos trivial, tl]
      exact back_j2 s hs
  | succ m ih =>
    intro i hi
    have ht : (l.take (i + 1)).all rightX = ((l.take i).all rightX && rightX (rd_T32 l i)) := by
      rw [(rd_mem l i (by omega)).2, List.all_append]
      simp
    have := ih (i + 1) (by omega)
    rw [ht] at this
    rw [show 2001 + (m + 1) = (2001 + m) + 1 by omega, instarlaw04_CodeBack.l0, if_pos (by omega), if_pos (by omega)]
    have hr2 : instarref03_Right.f (rd_T32 l i).f0 (rd_T32 l i).f1 (rd_T32 l i).f2 = some (rightX (rd_T32 l i)) := rfl
    rw [hr2, bnd, show wrap64 ((i : Int) + 1) = ((i + 1 : Nat) : Int) by unfold wrap64; omega]
    by_cases hr : (l.take i).all rightX = true
    · rw [if_pos hr]
      rw [hr, Bool.true_and] at this
      exact this
    · rw [if_neg hr]
      rw [Bool.eq_false_iff.2 hr, Bool.false_and] at this
      exact this

/-- CodeBack comes to true. -/
theorem back_pure (l : List S32) (ho : l.all okN = true) (s : ByteArray) : ∃ K, instarlaw04_CodeBack.f K l s = some true := by
  obtain ⟨b, hf, hb⟩ := fits_f l
  by_cases h : b = true ∧ s.size ≤ 600
  · obtain ⟨rfl, hs⟩ := h
    have hl := hb rfl
    refine ⟨2002 + l.length, ?_⟩
    unfold instarlaw04_CodeBack.f
    rw [show 2002 + l.length = (1980 + l.length) + 22 by omega, hf, bnd, if_pos rfl]
    rw [show (1980 + l.length) + 22 = (2001 + l.length) + 1 by omega, instarlaw04_CodeBack.j0, if_neg (by simp; omega)]
    exact back_l0 l ho hl s hs l.length 0 (by omega)
  · refine ⟨100, ?_⟩
    unfold instarlaw04_CodeBack.f
    rw [hf 78, bnd]
    cases b with
    | false => rw [if_neg (by decide), instarlaw04_CodeBack.j0, if_pos rfl, alive_f 99 (by decide), bnd]
    | true =>
      have hs : ¬ s.size ≤ 600 := fun hs => h ⟨rfl, hs⟩
      rw [if_pos rfl, instarlaw04_CodeBack.j0, if_pos (by simp; omega), alive_f 99 (by decide), bnd]
end Go.Proofs.YtknkaaleafiifaaDoor
