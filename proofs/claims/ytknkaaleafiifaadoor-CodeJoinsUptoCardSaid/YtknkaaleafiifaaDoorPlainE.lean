/- Plain laws of the code: bytes one behind the other are the bytes of all, and the first are skipped one by one; CodeJoins comes to true; no program in sight. -/
import Derived.Test.YtknkaaleafiifaaDoorPlainD
set_option linter.unusedVariables false
set_option linter.unusedSimpArgs false
namespace Go.Proofs.YtknkaaleafiifaaDoor
open Go.RowKit Go.Proofs.YtknkaaleafiifaaDoorW.PrintWords Go.Proofs.YtknkaaleafiifaaDoor.Kp Go.Proofs.YtknkaaleafiifaaDoor.Hp

theorem okR_app {a b : List S32} (ha : okR a) (hb : okR b) : okR (a ++ b) := fun x hx => (List.mem_append.1 hx).elim (ha x) (hb x)
theorem skip_f (s : ByteArray) (x : S32) (r : List UInt8) (hx : okN x = true ∧ rightX x = true) (hs : s.data.toList = encX x ++ r) (hz : (encX x ++ r).length ≤ 1099511627776) : code_Skip.f s = some (((encX x).length : Int), 0) := by
  have hp := encX_pos x
  unfold code_Skip.f
  rw [first_f s _ hs hz, bnd, first_val x r hx, firstR_some]
  simp only []
  rw [if_pos (by omega)]

theorem joins_l0 (a b : List S32) (ha : okR a) (hb : okR b) (hla : a.length ≤ 20) (hlb : b.length ≤ 20) : ∀ (m i : Nat) (rest : ByteArray), i + m = a.length → rest.data.toList = encL (a.drop i) ++ encL b →
    instarlaw04_CodeJoins.l0 (101 + m) a ⟨(encL a).toArray⟩ ⟨(encL b).toArray⟩ ⟨(encL (a ++ b)).toArray⟩ 0 rest i = some true := by
  have l1 := encL_length a (okR_all ha).2
  have l2 := encL_length b (okR_all hb).2
  intro m
  induction m with
  | zero =>
    intro i rest hi hr
    have hd : a.drop i = [] := List.drop_eq_nil_of_le (by omega)
    have hr' : rest.data.toList = encL b := by rw [hr, hd]; rfl
    have z1 : (⟨(encL a).toArray⟩ : ByteArray).size = (encL a).length := by rw [size_toList]
    have z2 : (⟨(encL b).toArray⟩ : ByteArray).size = (encL b).length := by rw [size_toList]
    rw [show 101 + 0 = 100 + 1 from rfl, instarlaw04_CodeJoins.l0, if_neg (by omega), alive_f 100 (by decide), bnd, if_pos rfl, if_pos rfl, if_pos (by omega), if_pos (by rw [tl2, tl2, encL_app]; simp), tl2, tl2, hr']
    simp
  | succ m ih =>
    intro i rest hi hr
    obtain ⟨hmem, _⟩ := rd_mem a i (by omega)
    have hd : a.drop i = rd_T32 a i :: a.drop (i + 1) := by
      rw [List.drop_eq_getElem_cons (by omega)]
      congr 1
      simp [rd_T32, List.getD, List.getElem?_eq_getElem (show i < a.length by omega)]
    generalize rd_T32 a i = x at *
    have hp := encX_pos x
    have l3 : (encL (a.drop i)).length ≤ 403 * 20 := by
      have e := encL_length (a.drop i) (List.all_eq_true.2 fun y hy => (ha y (List.mem_of_mem_drop hy)).2)
      have : (a.drop i).length ≤ 20 := by rw [List.length_drop]; omega
      omega
    rw [hd, encL_cons] at hr
    rw [hd, encL_cons, List.length_append] at l3
    rw [List.append_assoc] at hr
    have hz : rest.size = (encX x).length + ((encL (a.drop (i + 1))).length + (encL b).length) := by rw [size_toList, hr, List.length_append, List.length_append]
    have sk := skip_f rest x _ (ha x hmem) hr (by rw [List.length_append, List.length_append]; omega)
    rw [show 101 + (m + 1) = (101 + m) + 1 by omega, instarlaw04_CodeJoins.l0, if_pos (by omega), sk, bnd]
    simp only []
    rw [if_pos trivial, if_neg (by omega), if_neg (by omega), if_pos (by omega), if_pos (by omega), Int.toNat_natCast, show wrap64 ((i : Int) + 1) = ((i + 1 : Nat) : Int) by unfold wrap64; omega]
    exact ih (i + 1) _ (by omega) (by rw [extract_toList, hr, List.drop_left])

theorem joins_j0 (a b : List S32) (ha : okR a) (hb : okR b) (hla : a.length ≤ 20) (hlb : b.length ≤ 20) : instarlaw04_CodeJoins.j0 (102 + a.length) a b ⟨(encL a).toArray⟩ ⟨(encL b).toArray⟩ false = some true := by
  have hab := okR_app ha hb
  rw [show 102 + a.length = (101 + a.length) + 1 by omega, instarlaw04_CodeJoins.j0, if_neg (by decide), bnd, if_pos (by simp; omega), bnd, if_pos (by simp; omega), List.nil_append, encode_f hab (by simp; omega), bnd]
  simp only []
  exact joins_l0 a b ha hb hla hlb a.length 0 _ (by omega) (by rw [encL_app]; simp)
theorem joins_alive (k : Nat) (l r : List S32) (x y : ByteArray) : instarlaw04_CodeJoins.j0 (101 + k) l r x y true = some true := by
  rw [show 101 + k = (100 + k) + 1 by omega, instarlaw04_CodeJoins.j0, if_pos rfl, alive_f (100 + k) (by omega), bnd]

/-- CodeJoins comes to true. -/
theorem joins_pure (l : List S32) (ho : l.all okN = true) (hl : l.length ≤ 1048576) (r : List S32) (hor : r.all okN = true) (hr : r.length ≤ 1048576) : ∃ K, instarlaw04_CodeJoins.f K l r = some true := by
  obtain ⟨b, hf, hb⟩ := fits_f l
  obtain ⟨c, hg, hc⟩ := fits_f r
  refine ⟨102 + l.length, ?_⟩
  have hal : ∀ x y, instarlaw04_CodeJoins.j0 (102 + l.length) l r x y true = some true := fun x y => by
    rw [show 102 + l.length = 101 + (1 + l.length) by omega]; exact joins_alive _ _ _ _ _
  have hf' : instarlaw04_fits.f (102 + l.length) l = some b := by rw [show 102 + l.length = (80 + l.length) + 22 by omega]; exact hf _
  have hg' : instarlaw04_fits.f (102 + l.length) r = some c := by rw [show 102 + l.length = (80 + l.length) + 22 by omega]; exact hg _
  unfold instarlaw04_CodeJoins.f
  rw [hf', bnd, hg', bnd]
  rcases encode_any l ho hl with ⟨r1, e1⟩ | e1 <;> rcases encode_any r hor hr with ⟨r2, e2⟩ | e2 <;> rw [e1, bnd, e2, bnd] <;> simp only []
  · cases b with
    | false => rw [if_neg (by decide)]; exact hal _ _
    | true =>
      rw [if_pos rfl]
      cases c with
      | false => rw [if_neg (by decide)]; exact hal _ _
      | true =>
        rw [if_pos rfl, if_pos trivial]
        exact joins_j0 l r r1 r2 (hb rfl) (hc rfl)
  all_goals
    cases b with
    | false => rw [if_neg (by decide)]; exact hal _ _
    | true =>
      rw [if_pos rfl]
      cases c with
      | false => rw [if_neg (by decide)]; exact hal _ _
      | true =>
        rw [if_pos rfl]
        first
          | (rw [if_neg (by decide)]; exact hal _ _)
          | (rw [if_pos trivial]; exact hal _ _)
end Go.Proofs.YtknkaaleafiifaaDoor
