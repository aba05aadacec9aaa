/- Plain laws of the code: the bytes of right values are in order as these are; CodeOrder comes to true; no program in sight. -/
import Derived.Test.YtknkaaleafiifaaDoorPlainC
set_option linter.unusedVariables false
set_option linter.unusedSimpArgs false
namespace Go.Proofs.YtknkaaleafiifaaDoor
open Go.RowKit Go.Proofs.YtknkaaleafiifaaDoorW.PrintWords Go.Proofs.YtknkaaleafiifaaDoor.Kp Go.Proofs.YtknkaaleafiifaaDoor.Hp

theorem less_same (c : UInt8) (a b : List UInt8) : Op.bytesLess (c :: a) (c :: b) = Op.bytesLess a b := by simp [Op.bytesLess]
theorem less_ne (c d : UInt8) (a b : List UInt8) (h : c ≠ d) : Op.bytesLess (c :: a) (d :: b) = decide (c < d) := by
  simp only [Op.bytesLess]
  by_cases h1 : c < d
  · simp [h1]
  · simp [h1, h]
theorem less_app (p a b : List UInt8) : Op.bytesLess (p ++ a) (p ++ b) = Op.bytesLess a b := by
  induction p with
  | nil => rfl
  | cons c p ih => rw [List.cons_append, List.cons_append, less_same, ih]
theorem less_pre : ∀ (p q a b : List UInt8), p.length = q.length → p ≠ q → Op.bytesLess (p ++ a) (q ++ b) = Op.bytesLess p q
  | [], [], _, _, _, h => absurd rfl h
  | [], _ :: _, _, _, h, _ => by simp at h
  | _ :: _, [], _, _, h, _ => by simp at h
  | c :: p, d :: q, a, b, hl, h => by
    by_cases hcd : c = d
    · subst hcd
      rw [List.cons_append, List.cons_append, less_same, less_same]
      exact less_pre p q a b (by simpa using hl) (fun e => h (by rw [e]))
    · rw [List.cons_append, List.cons_append, less_ne _ _ _ _ hcd, less_ne _ _ _ _ hcd]
theorem zero_lt (c : UInt8) (h : c ≠ 0) : (0 : UInt8) < c := by
  rw [UInt8.lt_iff_toNat_lt]
  have : c.toNat ≠ 0 := fun e => h (UInt8.toNat_inj.1 e)
  show 0 < c.toNat
  omega
theorem less_esc : ∀ (s t a b : List UInt8), s ≠ t → Op.bytesLess (esc s ++ [0, 0] ++ a) (esc t ++ [0, 0] ++ b) = Op.bytesLess s t
  | [], [], _, _, h => absurd rfl h
  | [], d :: t, a, b, _ => by
    by_cases hd : d = 0
    · subst hd
      simp only [esc, if_true, List.nil_append, List.cons_append]
      rw [less_same, less_ne _ _ _ _ (by decide)]
      rfl
    · simp only [esc, if_neg hd, List.nil_append, List.cons_append]
      rw [less_ne _ _ _ _ (fun e => hd e.symm)]
      simp [zero_lt d hd, Op.bytesLess]
  | c :: s, [], a, b, _ => by
    by_cases hc : c = 0
    · subst hc
      simp only [esc, if_true, List.nil_append, List.cons_append]
      rw [less_same, less_ne _ _ _ _ (by decide)]
      rfl
    · simp only [esc, if_neg hc, List.nil_append, List.cons_append]
      rw [less_ne _ _ _ _ hc]
      have := zero_lt c hc
      rw [UInt8.lt_iff_toNat_lt] at this
      have h2 : ¬ c < 0 := by rw [UInt8.lt_iff_toNat_lt]; omega
      simp [h2, Op.bytesLess]
  | c :: s, d :: t, a, b, h => by
    by_cases hcd : c = d
    · subst hcd
      have hst : s ≠ t := fun e => h (by rw [e])
      have ih := less_esc s t a b hst
      rw [less_same]
      by_cases hc : c = 0
      · subst hc
        simp only [esc, if_true, List.cons_append]
        rw [less_same, less_same]
        exact ih
      · simp only [esc, if_neg hc, List.cons_append]
        rw [less_same]
        exact ih
    · rw [less_ne _ _ _ _ hcd]
      by_cases hc : c = 0
      · subst hc
        have hd : d ≠ 0 := fun e => hcd e.symm
        simp only [esc, if_true, if_neg hd, List.cons_append]
        rw [less_ne _ _ _ _ hcd]
      · by_cases hd : d = 0
        · subst hd
          simp only [esc, if_true, if_neg hc, List.cons_append]
          rw [less_ne _ _ _ _ hcd]
        · simp only [esc, if_neg hc, if_neg hd, List.cons_append]
          rw [less_ne _ _ _ _ hcd]

/-- Two numbers' bytes are in order as these are. -/
theorem less_put (m n : Int) (hm : 0 ≤ m ∧ m ≤ 18446744073709551615) (hn : 0 ≤ n ∧ n ≤ 18446744073709551615) : Op.bytesLess (bytesU (putBytes m)) (bytesU (putBytes n)) = decide (m < n) := by
  have e := NumPl.bytesLess_val (putBytes m) (putBytes n) 0 rfl (NumFn.put_bytes m hm) (NumFn.put_bytes n hn)
  rw [NumFn.put_val, NumFn.put_val] at e
  exact e
theorem less_put4 (m n : Int) (hm : 0 ≤ m ∧ m ≤ 4294967295) (hn : 0 ≤ n ∧ n ≤ 4294967295) : Op.bytesLess (bytesU ((putBytes m).drop 4)) (bytesU ((putBytes n).drop 4)) = decide (m < n) := by
  have e := NumPl.bytesLess_val ((putBytes m).drop 4) ((putBytes n).drop 4) 0 rfl (fun b hb => put_mem m hm.1 (by omega) b (List.mem_of_mem_drop hb)) (fun b hb => put_mem n hn.1 (by omega) b (List.mem_of_mem_drop hb))
  rw [put4_val m hm.1 hm.2, put4_val n hn.1 hn.2] at e
  exact e
/-- The first byte is the kind, and the rest. -/
theorem one_head (k n : Int) (t : List UInt8) (h : RightC k n t) : ∃ l, oneL k n t = UInt8.ofNat k.toNat :: l ∧ 0 ≤ k ∧ k ≤ 4 := by
  rcases h with ⟨rfl, rfl, h⟩ | ⟨rfl, ⟨rfl, rfl⟩ | ⟨rfl, rfl | rfl⟩ | ⟨rfl, h1, h2⟩ | rfl⟩
  · exact ⟨_, rfl, by decide, by decide⟩
  · exact ⟨_, rfl, by decide, by decide⟩
  · exact ⟨_, rfl, by decide, by decide⟩
  · exact ⟨_, rfl, by decide, by decide⟩
  · exact ⟨_, rfl, by decide, by decide⟩
  · exact ⟨_, rfl, by decide, by decide⟩
theorem kind_lt (k k' : Int) (h : 0 ≤ k ∧ k ≤ 4) (h' : 0 ≤ k' ∧ k' ≤ 4) (hne : k ≠ k') : UInt8.ofNat k.toNat ≠ UInt8.ofNat k'.toNat ∧ decide (UInt8.ofNat k.toNat < UInt8.ofNat k'.toNat) = decide (k < k') := by
  have e : (UInt8.ofNat k.toNat).toNat = k.toNat := by simp; omega
  have e' : (UInt8.ofNat k'.toNat).toNat = k'.toNat := by simp; omega
  constructor
  · intro h2
    have := congrArg UInt8.toNat h2
    rw [e, e'] at this
    omega
  · rw [decide_eq_decide, UInt8.lt_iff_toNat_lt, e, e']
    omega

/-- The order of two values, by kind, number and text. -/
def cmpX (x y : S32) : Int := cmpV x.f0 x.f1 x.f2 y.f0 y.f1 y.f2
theorem cmp_zero (x y : S32) : cmpX x y = 0 ↔ x.f0 = y.f0 ∧ x.f1 = y.f1 ∧ x.f2.data.toList = y.f2.data.toList := by
  unfold cmpX cmpV
  rw [tl2, tl2]
  by_cases h : x.f0 = y.f0 ∧ x.f1 = y.f1 ∧ x.f2.data.toList = y.f2.data.toList
  · rw [if_pos h]; exact ⟨fun _ => h, fun _ => rfl⟩
  · rw [if_neg h]
    refine ⟨fun e => ?_, fun e => absurd e h⟩
    repeat' split at e
    all_goals omega
theorem same_x {x y : S32} (h : x.f0 = y.f0 ∧ x.f1 = y.f1 ∧ x.f2.data.toList = y.f2.data.toList) : x = y := by
  obtain ⟨a, b, c⟩ := x
  obtain ⟨a', b', c'⟩ := y
  obtain ⟨h1, h2, h3⟩ := h
  simp only at h1 h2 h3
  subst h1; subst h2
  rw [data_ext h3]
/-- The bytes of two right values that differ, whatever stands behind them, are in order as these are. -/
theorem less_one (x y : S32) (hx : okN x = true ∧ rightX x = true) (hy : okN y = true ∧ rightX y = true) (hne : cmpX x y ≠ 0) (a b : List UInt8) :
    Op.bytesLess (encX x ++ a) (encX y ++ b) = decide (cmpX x y < 0) := by
  have rx := (right_iff x).1 hx.2
  have ry := (right_iff y).1 hy.2
  have ox := (okN_iff x).1 hx.1
  have oy := (okN_iff y).1 hy.1
  have hn : ¬ (x.f0 = y.f0 ∧ x.f1 = y.f1 ∧ x.f2.data.toList = y.f2.data.toList) := fun h => hne ((cmp_zero x y).2 h)
  unfold cmpX cmpV
  rw [tl2, tl2, if_neg hn]
  unfold encX
  by_cases hk : x.f0 = y.f0
  · rw [if_neg (by omega), if_neg (by simpa using hk)]
    generalize x.f2.data.toList = s at *
    generalize y.f2.data.toList = t at *
    generalize x.f0 = k at *
    generalize y.f0 = k' at *
    generalize x.f1 = m at *
    generalize y.f1 = n at *
    subst hk
    rcases rx with ⟨rfl, rfl, h⟩ | ⟨rfl, ⟨rfl, rfl⟩ | ⟨rfl, h⟩ | ⟨rfl, h1, h2⟩ | rfl⟩
    · rcases ry with ⟨_, rfl, h'⟩ | ⟨_, h' | h' | h' | h'⟩
      · have hst : s ≠ t := fun e => hn ⟨rfl, rfl, e⟩
        rw [if_neg (by decide), if_neg (by decide)]
        have e1 : oneL 4 0 s ++ a = 4 :: (esc s ++ [0, 0] ++ a) := rfl
        have e2 : oneL 4 0 t ++ b = 4 :: (esc t ++ [0, 0] ++ b) := rfl
        rw [e1, e2, less_same, less_esc _ _ _ _ hst]
        cases Op.bytesLess s t <;> rfl
      all_goals (exfalso; omega)
    · rcases ry with ⟨h', _⟩ | ⟨rfl, h' | h' | h' | h'⟩
      · omega
      · exact absurd ⟨rfl, h'.2.symm, rfl⟩ hn
      all_goals (exfalso; omega)
    · rcases ry with ⟨h', _⟩ | ⟨rfl, h' | ⟨_, h'⟩ | h' | h'⟩
      · omega
      · omega
      · have e1 : ∀ z, oneL 1 z [] = [1, UInt8.ofNat z.toNat] := fun _ => rfl
        rw [e1, e1]
        rcases h with rfl | rfl <;> rcases h' with rfl | rfl
        · exact absurd ⟨rfl, rfl, rfl⟩ hn
        · rfl
        · rfl
        · exact absurd ⟨rfl, rfl, rfl⟩ hn
      · omega
      · omega
    · rcases ry with ⟨h', _⟩ | ⟨rfl, h' | h' | ⟨_, h1', h2'⟩ | h'⟩
      · omega
      · omega
      · omega
      · have e1 : ∀ z, oneL 2 z [] = 2 :: bytesU ((putBytes (z + 2147483648)).drop 4) := fun _ => rfl
        have hmn : m ≠ n := fun e => hn ⟨rfl, e, rfl⟩
        have l := less_put4 (m + 2147483648) (n + 2147483648) (by omega) (by omega)
        have l' := less_put4 (n + 2147483648) (m + 2147483648) (by omega) (by omega)
        have d : bytesU ((putBytes (m + 2147483648)).drop 4) ≠ bytesU ((putBytes (n + 2147483648)).drop 4) := by
          intro e
          rw [e] at l l'
          rw [l] at l'
          rw [decide_eq_decide] at l'
          omega
        rw [e1, e1, List.cons_append, List.cons_append, less_same, less_pre _ _ _ _ (by rfl) d, l]
        by_cases h : m < n
        · rw [if_pos h]; simp; omega
        · rw [if_neg h, if_pos hmn]; simp; omega
      · omega
    · rcases ry with ⟨h', _⟩ | ⟨rfl, h' | h' | h' | _⟩
      · omega
      · omega
      · omega
      · omega
      · have e1 : ∀ z, oneL 3 z [] = 3 :: bytesU (putBytes (z + 9223372036854775808)) := fun _ => rfl
        have hmn : m ≠ n := fun e => hn ⟨rfl, e, rfl⟩
        have l := less_put (m + 9223372036854775808) (n + 9223372036854775808) (by omega) (by omega)
        have l' := less_put (n + 9223372036854775808) (m + 9223372036854775808) (by omega) (by omega)
        have d : bytesU (putBytes (m + 9223372036854775808)) ≠ bytesU (putBytes (n + 9223372036854775808)) := by
          intro e
          rw [e] at l l'
          rw [l] at l'
          rw [decide_eq_decide] at l'
          omega
        rw [e1, e1, List.cons_append, List.cons_append, less_same, less_pre _ _ _ _ (by rfl) d, l]
        by_cases h : m < n
        · rw [if_pos h]; simp; omega
        · rw [if_neg h, if_pos hmn]; simp; omega
  · obtain ⟨l1, e1, hx1⟩ := one_head _ _ _ rx
    obtain ⟨l2, e2, hy1⟩ := one_head _ _ _ ry
    obtain ⟨d, e⟩ := kind_lt _ _ hx1 hy1 hk
    rw [e1, e2, List.cons_append, List.cons_append, less_ne _ _ _ _ d, e]
    by_cases h : x.f0 < y.f0
    · rw [if_pos h]; simp [h]
    · rw [if_neg h, if_pos hk]; simp [h]

/-- The order of two lists, one by one, the shorter first. -/
def cmpL : List S32 → List S32 → Int
  | [], [] => 0
  | [], _ :: _ => -1
  | _ :: _, [] => 1
  | x :: l, y :: r => if cmpX x y = 0 then cmpL l r else cmpX x y
theorem enc_cons_ne (x : S32) (l : List S32) : encL (x :: l) ≠ [] := by
  intro e
  have := congrArg List.length e
  rw [encL_cons, List.length_append, List.length_nil] at this
  have := encX_pos x
  omega
theorem less_nil (c : UInt8) (l : List UInt8) : Op.bytesLess [] (c :: l) = true ∧ ∀ s, Op.bytesLess s [] = false := by
  refine ⟨rfl, fun s => ?_⟩
  cases s <;> rfl
theorem less_list : ∀ (l r : List S32), okR l → okR r → Op.bytesLess (encL l) (encL r) = decide (cmpL l r < 0) ∧ (encL l = encL r ↔ cmpL l r = 0)
  | [], [], _, _ => ⟨rfl, by simp [cmpL]⟩
  | [], y :: r, _, _ => by
    obtain ⟨c, t, e⟩ : ∃ c t, encL (y :: r) = c :: t := by
      cases h : encL (y :: r) with
      | nil => exact absurd h (enc_cons_ne y r)
      | cons c t => exact ⟨c, t, rfl⟩
    rw [e]
    refine ⟨rfl, fun h => ?_, fun h => ?_⟩
    · cases h
    · simp [cmpL] at h
  | x :: l, [], _, _ => by
    obtain ⟨c, t, e⟩ : ∃ c t, encL (x :: l) = c :: t := by
      cases h : encL (x :: l) with
      | nil => exact absurd h (enc_cons_ne x l)
      | cons c t => exact ⟨c, t, rfl⟩
    rw [e]
    refine ⟨rfl, fun h => ?_, fun h => ?_⟩
    · cases h
    · simp [cmpL] at h
  | x :: l, y :: r, hl, hr => by
    have hx := hl x (.head _)
    have hy := hr y (.head _)
    rw [encL_cons, encL_cons]
    by_cases h : cmpX x y = 0
    · obtain rfl := same_x ((cmp_zero x y).1 h)
      obtain ⟨a, b⟩ := less_list l r (fun z hz => hl z (.tail _ hz)) (fun z hz => hr z (.tail _ hz))
      have hc : cmpL (x :: l) (x :: r) = if cmpX x x = 0 then cmpL l r else cmpX x x := rfl
      rw [if_pos h] at hc
      rw [less_app, hc, a]
      exact ⟨rfl, by rw [← b]; exact ⟨fun e => List.append_cancel_left e, fun e => by rw [e]⟩⟩
    · have hc : cmpL (x :: l) (y :: r) = if cmpX x y = 0 then cmpL l r else cmpX x y := rfl
      rw [if_neg h] at hc
      rw [hc, less_one x y hx hy h]
      refine ⟨rfl, fun e => ?_, fun e => absurd e h⟩
      exfalso
      have f1 := first_val x (encL l) hx
      rw [e, first_val y (encL r) hy] at f1
      simp only [Option.some.injEq, Prod.mk.injEq] at f1
      exact h ((cmp_zero x y).2 ⟨f1.1.symm, f1.2.1.symm, f1.2.2.1.symm⟩)

theorem compare_l (l r : List S32) (hl : l.length ≤ 1000000) (hr : r.length ≤ 1000000) : ∀ (m i K : Nat), i + m = l.length → i ≤ r.length → 2 * m + 2 ≤ K → instarref04_Compare.l0 K l r i = some (cmpL (l.drop i) (r.drop i)) := by
  intro m
  induction m with
  | zero =>
    intro i K hi hb hK
    obtain ⟨k, rfl⟩ : ∃ k, K = k + 1 + 1 := ⟨K - 2, by omega⟩
    rw [instarref04_Compare.l0, if_neg (by omega), instarref04_Compare.j1, if_neg (by decide)]
    rw [List.drop_eq_nil_of_le (show l.length ≤ i by omega)]
    by_cases h : i < r.length
    · rw [if_pos (by omega), List.drop_eq_getElem_cons h]; rfl
    · rw [if_neg (by omega), if_neg (by omega), List.drop_eq_nil_of_le (by omega)]; rfl
  | succ m ih =>
    intro i K hi hb hK
    obtain ⟨k, rfl⟩ : ∃ k, K = k + 1 + 1 := ⟨K - 2, by omega⟩
    rw [instarref04_Compare.l0, if_pos (by omega)]
    have hdl : l.drop i = rd_T32 l i :: l.drop (i + 1) := by
      rw [List.drop_eq_getElem_cons (by omega)]
      congr 1
      simp [rd_T32, List.getD, List.getElem?_eq_getElem (show i < l.length by omega)]
    by_cases h : i < r.length
    · have hdr : r.drop i = rd_T32 r i :: r.drop (i + 1) := by
        rw [List.drop_eq_getElem_cons h]
        congr 1
        simp [rd_T32, List.getD, List.getElem?_eq_getElem h]
      rw [instarref04_Compare.j1, if_pos (by simp; omega), if_pos (by omega), if_pos (by omega), if_pos (by omega)]
      have hc : instarref03_Compare.f (rd_T32 l i).f0 (rd_T32 l i).f1 (rd_T32 l i).f2 (rd_T32 r i).f0 (rd_T32 r i).f1 (rd_T32 r i).f2 = some (cmpX (rd_T32 l i) (rd_T32 r i)) := rfl
      rw [hc, bnd, hdl, hdr]
      simp only [cmpL]
      by_cases hz : cmpX (rd_T32 l i) (rd_T32 r i) = 0
      · rw [if_pos hz, if_pos hz, show wrap64 ((i : Int) + 1) = ((i + 1 : Nat) : Int) by unfold wrap64; omega]
        exact ih (i + 1) k (by omega) (by omega) (by omega)
      · rw [if_neg hz, if_neg hz]
    · rw [instarref04_Compare.j1, if_neg (by simp; omega), if_neg (by omega), if_pos (by omega), hdl, List.drop_eq_nil_of_le (show r.length ≤ i by omega)]
      rfl

/-- What Encode comes to: the bytes, or the error. -/
theorem encode_any (l : List S32) (ho : l.all okN = true) (hl : l.length ≤ 1048576) : (okR l ∧ code_Encode.f l = some (⟨(encL l).toArray⟩, 0)) ∨ code_Encode.f l = some (⟨#[]⟩, 1) := by
  by_cases hr : l.all rightX = true
  · exact .inl ⟨okR_of ho hr, encode_f (okR_of ho hr) (by omega)⟩
  · exact .inr (encode_not ho hr (by omega))
theorem order_j0 (l r : List S32) (hl : okR l) (hr : okR r) (hll : l.length ≤ 20) (hlr : r.length ≤ 20) : instarlaw04_CodeOrder.j0 101 l r ⟨(encL l).toArray⟩ ⟨(encL r).toArray⟩ false = some true := by
  rw [instarlaw04_CodeOrder.j0, if_neg (by decide)]
  have e : instarref04_Compare.f 100 l r = some (cmpL l r) := by
    have := compare_l l r (by omega) (by omega) l.length 0 100 (by omega) (by omega) (by omega)
    exact this
  obtain ⟨a, b⟩ := less_list l r hl hr
  rw [e, bnd, alive_f 100 (by decide), bnd, if_pos rfl, tl, tl]
  simp only []
  rw [a, if_pos (by simp)]
  congr 1
  rw [Bool.beq_eq_decide_eq, decide_eq_true_eq]
  rw [Bool.eq_iff_iff, beq_iff_eq, beq_iff_eq]
  exact b
theorem order_alive (l r : List S32) (x y : ByteArray) : instarlaw04_CodeOrder.j0 101 l r x y true = some true := by
  rw [instarlaw04_CodeOrder.j0, if_pos rfl, alive_f 100 (by decide), bnd]

/-- CodeOrder comes to true. -/
theorem order_pure (l : List S32) (ho : l.all okN = true) (hl : l.length ≤ 1048576) (r : List S32) (hor : r.all okN = true) (hr : r.length ≤ 1048576) : ∃ K, instarlaw04_CodeOrder.f K l r = some true := by
  obtain ⟨b, hf, hb⟩ := fits_f l
  obtain ⟨c, hg, hc⟩ := fits_f r
  refine ⟨101, ?_⟩
  unfold instarlaw04_CodeOrder.f
  rw [hf 79, bnd, hg 79, bnd]
  rcases encode_any l ho hl with ⟨r1, e1⟩ | e1 <;> rcases encode_any r hor hr with ⟨r2, e2⟩ | e2 <;> rw [e1, bnd, e2, bnd] <;> simp only []
  · cases b with
    | false => rw [if_neg (by decide)]; exact order_alive _ _ _ _
    | true =>
      rw [if_pos rfl]
      cases c with
      | false => rw [if_neg (by decide)]; exact order_alive _ _ _ _
      | true =>
        rw [if_pos rfl, if_pos trivial]
        exact order_j0 l r r1 r2 (hb rfl) (hc rfl)
  all_goals
    cases b with
    | false => rw [if_neg (by decide)]; exact order_alive _ _ _ _
    | true =>
      rw [if_pos rfl]
      cases c with
      | false => rw [if_neg (by decide)]; exact order_alive _ _ _ _
      | true =>
        rw [if_pos rfl]
        first
          | (rw [if_neg (by decide)]; exact order_alive _ _ _ _)
          | (rw [if_pos trivial]; exact order_alive _ _ _ _)
end Go.Proofs.YtknkaaleafiifaaDoor
