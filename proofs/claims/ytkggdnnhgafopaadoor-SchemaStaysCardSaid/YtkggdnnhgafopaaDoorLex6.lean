/- What lex reads of a text, part six: the marks, and the word that comes; for every text. -/
import Derived.Test.YtkggdnnhgafopaaDoorLex5
set_option linter.unusedVariables false
set_option linter.unusedSimpArgs false
namespace Go.Proofs.YtkggdnnhgafopaaDoor
open Go.RowKit Go.Lib Go.Shelf Go.Proofs.YtkggdnnhgafopaaDoorW.PrintWords
def marksB : List ByteArray := [⟨#[60, 61]⟩, ⟨#[62, 61]⟩, ⟨#[60, 62]⟩, ⟨#[40]⟩, ⟨#[41]⟩, ⟨#[44]⟩, ⟨#[61]⟩, ⟨#[60]⟩, ⟨#[62]⟩, ⟨#[43]⟩, ⟨#[45]⟩, ⟨#[42]⟩]
theorem marks_f : Kp.lex_marks.f = some marksB := rfl
theorem marks_calls (w : World) : Calls Tryd.prog 75 #[] w fun e w' => ∃ g cap, e = .returned (.slice (some ⟨g, 0, none⟩) 12 cap) ∧ (w.heap.size ≤ g ∧ g < w'.heap.size) ∧ (∀ j, j < 12 → w'.cell? ⟨g, j, none⟩ = some (.string marksB[j]!)) ∧ Below w.heap.size w w' := by
  refine (Kp.lex_marks.calls marksB w marks_f).mono ?_
  rintro e w' ⟨v, rfl, hR, hb⟩
  obtain ⟨g, cap, rfl, h1, h2, _⟩ := Kd.R_form hR (by decide)
  refine ⟨g, cap, rfl, ⟨h1, h2⟩, fun j hj => ?_, hb⟩
  have hc := (Kd.R_cell (ByteArray.empty) hR (j : Int) (by omega) (by show (j : Int) < 12; omega)).1
  rw [Int.toNat_natCast] at hc
  rw [hc]
  have hj2 : j < marksB.length := hj
  simp only [rdOf, Int.toNat_natCast, List.getD_eq_getElem?_getD, List.getElem?_eq_getElem hj2, Option.getD_some, getElem!_pos marksB j hj2]
set_option maxRecDepth 100000 in
set_option maxHeartbeats 4000000 in
theorem two_size {w W : World} {s : ByteArray} (h : Two w s W) : w.heap.size + 2 ≤ W.heap.size := h.2.2.2
theorem two_drew {w W : World} {s : ByteArray} (h : Two w s W) : Two w s W.drew := two_below h (Below.drew (Below.refl _ _))
/-- The closure that asks whether a mark comes. -/
theorem comes (s : ByteArray) (B : Nat) (w : World) (hB : B < w.heap.size) (hc : w.cell? ⟨B, 0, none⟩ = some (.string s)) :
    PredAt Tryd.prog 76 #[.pointer (some ⟨B, 0, none⟩)] Value.string (fun m => Lib.hasPrefix s.data.toList m.data.toList) w := fun W m hb => by
  have hc' : W.cell? ⟨B, 0, none⟩ = some (.string s) := (hb.cell (p := ⟨B, 0, none⟩) hB).trans hc
  have hp := fun W' => Tryd.strings_HasPrefix s m W'
  unfold FnGives
  show Calls Tryd.prog 76 #[.string m, .pointer (some ⟨B, 0, none⟩)] W _
  go_enter Tryd.func76, Tryd.ntmps76
  go_wp2_with (go_at_call 72; refine (hp _).mono ?_; rintro e w' ⟨rfl, rfl⟩)
  go_ret
  exact ⟨rfl, 0, rfl⟩
/-- The place of the first mark that comes; -1: none does. -/
def markI (l : List UInt8) : Int := Lib.idxBy (fun _ y => Lib.hasPrefix l y.data.toList) marksB default
theorem markI_cases (l : List UInt8) : markI l = -1 ∨ ∃ j : Nat, j < 12 ∧ markI l = j ∧ Lib.hasPrefix l marksB[j]!.data.toList = true := by
  have gen : ∀ (zs : List ByteArray) (i : Nat), Lib.idxByFrom (fun _ y => Lib.hasPrefix l y.data.toList) default zs i = -1 ∨ ∃ j : Nat, j < zs.length ∧ Lib.idxByFrom (fun _ y => Lib.hasPrefix l y.data.toList) default zs i = (i + j : Nat) ∧ Lib.hasPrefix l zs[j]!.data.toList = true := by
    intro zs
    induction zs with
    | nil => intro i; exact .inl rfl
    | cons z zs ih =>
      intro i
      by_cases h : Lib.hasPrefix l z.data.toList = true
      · exact .inr ⟨0, by simp, by simp [Lib.idxByFrom, h], by simpa using h⟩
      · rcases ih (i + 1) with e | ⟨j, h1, h2, h3⟩
        · left; simp only [Lib.idxByFrom]; rw [if_neg h]; exact e
        · right
          refine ⟨j + 1, by simp; omega, ?_, by simpa using h3⟩
          simp only [Lib.idxByFrom]
          rw [if_neg h, h2]
          congr 1; omega
  rcases gen marksB 0 with e | ⟨j, h1, h2, h3⟩
  · exact .inl e
  · exact .inr ⟨j, h1, by rw [markI, Lib.idxBy, h2]; simp, h3⟩
theorem find_mark (s : ByteArray) (B g cap : Nat) (w : World) (hB : B < w.heap.size) (hc : w.cell? ⟨B, 0, none⟩ = some (.string s)) (hg : ∀ j, j < 12 → w.cell? ⟨g, j, none⟩ = some (.string marksB[j]!)) :
    Calls Tryd.prog 74 #[.slice (some ⟨g, 0, none⟩) 12 cap, .func (.func 76) #[] #[.pointer (some ⟨B, 0, none⟩)]] w fun e w' => e = .returned (.int .i64 (markI s.data.toList)) ∧ Below w.heap.size w w' := by
  refine (Tryd.slices_IndexFunc Value.string (fun m => Lib.hasPrefix s.data.toList m.data.toList) 76 #[.pointer (some ⟨B, 0, none⟩)] e76 g 0 12 cap marksB w (comes s B w hB hc) (Nat.le_refl 12) (by decide) (fun j hj => by rw [Nat.zero_add]; exact hg j hj)).mono ?_
  rintro e w' ⟨he, q, rfl⟩
  rw [show marksB.take 12 = marksB from rfl] at he
  exact ⟨he, below_drews _ _⟩
set_option maxRecDepth 100000 in
set_option maxHeartbeats 8000000 in
theorem one_mark_none (s : ByteArray) (c : UInt8) (r : List UInt8) (hs : s.data.toList = c :: r) (hz : s.size ≤ 1000000) (hc : letR (c.toNat : Int) = false) (hf : figR (c.toNat : Int) = false) (hq : ¬ c = 39) (hm : markI s.data.toList = -1) (w : World) :
    Calls Tryd.prog 58 #[.string s] w (OnePost 0 ⟨#[]⟩ 0 w) := by
  obtain ⟨hp, hs0⟩ := first_byte s c r hs
  have hsp : decide ((0 : Int) < (s.size : Int)) = true := decide_eq_true (by omega)
  have hw32 := wrap32_byte c
  have hlet := fun W => letter_calls (c.toNat : Int) W
  rw [hc] at hlet
  have hfig := fun W => containsRune_figs (c.toNat : Int) (by omega) (by have := c.toNat_lt; omega) W
  rw [hf] at hfig
  have hpx := fun W => Tryd.strings_HasPrefix s quo W
  rw [hs, has_quo, beq_eq_false_iff_ne.2 hq] at hpx
  clear hq
  have hfm := fun (g cap : Nat) (W : World) hB hc hg => find_mark s w.heap.size g cap W hB hc hg
  rw [hm] at hfm
  go_enter Tryd.func58, Tryd.ntmps58
  go_wp2_with fail
  refine (hlet _).mono ?_
  rintro e w1 ⟨rfl, n1, rfl⟩
  have TA := Lib.hid (two_drewN (two_new w s) n1)
  go_wp2_with fail
  refine (hfig _).mono ?_
  rintro e w2 ⟨rfl, hb2⟩
  have TB := Lib.hid (two_below TA.out hb2)
  clear hb2
  obtain ⟨ys, ⟨y0, y1, y2⟩, g0, g1, g2⟩ := two_facts TB.out
  go_wp2_with fail
  refine (hpx _).mono ?_
  rintro e w3 ⟨rfl, rfl⟩
  go_wp2_with fail
  refine (marks_calls _).mono ?_
  rintro e w5 ⟨g, cap, rfl, _, hg, hb2⟩
  have TD := Lib.hid (two_below TB.out hb2)
  have HG := Lib.hid hg
  clear hb2 hg
  obtain ⟨vs, ⟨v0, v1, v2⟩, l0, l1, l2⟩ := two_facts TD.out
  go_wp2_with fail
  refine (hfm g cap _ (by have := TD.out.2.2.2; omega) vs HG.out).mono ?_
  rintro e w6 ⟨rfl, hb2⟩
  have TE := Lib.hid (two_below TD.out hb2)
  clear hb2
  obtain ⟨xs, ⟨x0, x1, x2⟩, f0, f1, f2⟩ := two_facts TE.out
  have TW := TE
  go_wp2_with fail
  refine bodyPost_ret (results_ct rfl _ _ (w.heap.size + 1) 71 #[.int .i64 0, .string ⟨#[]⟩, .int .i64 0] (0, 0) _ rfl (blk_put (cs := #[.int .i64 0, .string ⟨#[]⟩, .int .i64 0]) (blk_put (cs := #[.int .i64 0, .string ⟨#[]⟩, .int .i64 0]) (blk_put (cs := #[.int .i64 0, .string ⟨#[]⟩, .int .i64 0]) TW.out.2.1 0 _ rfl) 1 _ rfl) 2 _ rfl) Tryd.underlying71 rfl (by kernel_rfl)) rfl ?_
  exact ⟨rfl, ((TW.out.2.2.1.setCell (by simp) _).setCell (by simp) _).setCell (by simp) _⟩
set_option maxRecDepth 100000 in
set_option maxHeartbeats 8000000 in
theorem one_mark_some (s : ByteArray) (c : UInt8) (r : List UInt8) (hs : s.data.toList = c :: r) (hz : s.size ≤ 1000000) (hc : letR (c.toNat : Int) = false) (hf : figR (c.toNat : Int) = false) (hq : ¬ c = 39) (j : Nat) (hj : j < 12) (hm : markI s.data.toList = j) (w : World) :
    Calls Tryd.prog 58 #[.string s] w (OnePost 3 marksB[j]! (marksB[j]!.size : Int) w) := by
  obtain ⟨hp, hs0⟩ := first_byte s c r hs
  have hsp : decide ((0 : Int) < (s.size : Int)) = true := decide_eq_true (by omega)
  have hw32 := wrap32_byte c
  have hlet := fun W => letter_calls (c.toNat : Int) W
  rw [hc] at hlet
  have hfig := fun W => containsRune_figs (c.toNat : Int) (by omega) (by have := c.toNat_lt; omega) W
  rw [hf] at hfig
  have hpx := fun W => Tryd.strings_HasPrefix s quo W
  rw [hs, has_quo, beq_eq_false_iff_ne.2 hq] at hpx
  clear hq
  have hfm := fun (g cap : Nat) (W : World) hB hc hg => find_mark s w.heap.size g cap W hB hc hg
  rw [hm] at hfm
  obtain ⟨M, hM⟩ : ∃ M, marksB[j]! = M := ⟨_, rfl⟩
  rw [hM]
  have hd0 : decide ((0 : Int) ≤ (j : Int)) = true := decide_eq_true (by omega)
  have hj12 : decide ((j : Int) < 12) = true := decide_eq_true (by omega)
  have hj12' : (j : Int) < 12 := by omega
  have hj0 : (0 : Int) ≤ (j : Int) := by omega
  go_enter Tryd.func58, Tryd.ntmps58
  go_wp2_with fail
  refine (hlet _).mono ?_
  rintro e w1 ⟨rfl, n1, rfl⟩
  have TA := Lib.hid (two_drewN (two_new w s) n1)
  go_wp2_with fail
  refine (hfig _).mono ?_
  rintro e w2 ⟨rfl, hb2⟩
  have TB := Lib.hid (two_below TA.out hb2)
  clear hb2
  obtain ⟨ys, ⟨y0, y1, y2⟩, g0, g1, g2⟩ := two_facts TB.out
  go_wp2_with fail
  refine (hpx _).mono ?_
  rintro e w3 ⟨rfl, rfl⟩
  go_wp2_with fail
  refine (marks_calls _).mono ?_
  rintro e w5 ⟨g, cap, rfl, _, hg, hb2⟩
  have TD := Lib.hid (two_below TB.out hb2)
  have HG := Lib.hid hg
  clear hb2 hg
  obtain ⟨vs, ⟨v0, v1, v2⟩, l0, l1, l2⟩ := two_facts TD.out
  go_wp2_with fail
  refine (hfm g cap _ (by have := TD.out.2.2.2; omega) vs HG.out).mono ?_
  rintro e w6 ⟨rfl, hb2⟩
  have TE := Lib.hid (two_below TD.out hb2)
  clear hb2
  go_wp2_with fail
  go_region_with (first | (go_at_call 75; refine (marks_calls _).mono ?_; rintro e w7 ⟨g2, cap2, rfl, ⟨hge, hlt⟩, hg, hb2⟩; have hge2 := Nat.le_trans (two_size (by first | exact TG.out | exact TE.out | exact two_drew TG.out | exact two_drew TE.out)) hge; have hne : ¬ g2 = w.heap.size + 1 := (by omega); have hne2 : ¬ w.heap.size + 1 = g2 := (by omega); clear hge hge2; have hx2 : w7.cell? ⟨g2, j, none⟩ = some (.string M) := (hg j hj).trans (by rw [hM]); (try have hxo := (hb2.cell (p := ⟨_, j, none⟩) HLT.out).trans HX.out); have TG := Lib.hid (two_below (by repeat (first | exact TG.out | exact TE.out | exact two_drew TG.out | exact two_drew TE.out)) hb2); have HX := Lib.hid hx2; have HLT := Lib.hid hlt; obtain ⟨zs, ⟨z0, z1, z2⟩, m0, m1, m2⟩ := two_facts TG.out; clear hb2 hg))
  all_goals (
  have TW := TG
  go_wp2_with fail
  refine bodyPost_ret (results_ct rfl _ _ (w.heap.size + 1) 71 #[.int .i64 3, .string M, .int .i64 0] (0, 0) _ rfl (blk_put (cs := #[.int .i64 3, .string M, .int .i64 0]) (blk_put (cs := #[.int .i64 3, .string ⟨#[]⟩, .int .i64 0]) (blk_put (cs := #[.int .i64 0, .string ⟨#[]⟩, .int .i64 0]) TW.out.2.1 0 _ rfl) 1 _ rfl) 2 _ rfl) Tryd.underlying71 rfl (by kernel_rfl)) rfl ?_
  exact ⟨rfl, ((TW.out.2.2.1.setCell (by simp) _).setCell (by simp) _).setCell (by simp) _⟩)
set_option maxRecDepth 100000 in
set_option maxHeartbeats 8000000 in
theorem one_late_none (s : ByteArray) (c : UInt8) (r : List UInt8) (hs : s.data.toList = c :: r) (hz : s.size ≤ 1000000) (hc : letR (c.toNat : Int) = false) (hf : figR (c.toNat : Int) = false) (hq : c = 39) (t : ByteArray) (n : Int) (ht : lex_quoted.f s = some (t, n)) (h200 : ¬ (t.size : Int) ≤ 200) (hm : markI s.data.toList = -1) (w : World) :
    Calls Tryd.prog 58 #[.string s] w (OnePost 0 ⟨#[]⟩ 0 w) := by
  obtain ⟨hp, hs0⟩ := first_byte s c r hs
  have hsp : decide ((0 : Int) < (s.size : Int)) = true := decide_eq_true (by omega)
  have hw32 := wrap32_byte c
  have hlet := fun W => letter_calls (c.toNat : Int) W
  rw [hc] at hlet
  have hfig := fun W => containsRune_figs (c.toNat : Int) (by omega) (by have := c.toNat_lt; omega) W
  rw [hf] at hfig
  have hpx := fun W => Tryd.strings_HasPrefix s quo W
  rw [hs, has_quo, hq, show ((39 : UInt8) == 39) = true from rfl] at hpx
  have hqu := fun W => lex_quoted.calls s t n W ht
  have hd : decide ((t.size : Int) ≤ 200) = false := decide_eq_false h200
  clear h200 hq ht
  have hfm := fun (g cap : Nat) (W : World) hB hc hg => find_mark s w.heap.size g cap W hB hc hg
  rw [hm] at hfm
  go_enter Tryd.func58, Tryd.ntmps58
  go_wp2_with fail
  refine (hlet _).mono ?_
  rintro e w1 ⟨rfl, n1, rfl⟩
  have TA := Lib.hid (two_drewN (two_new w s) n1)
  go_wp2_with fail
  refine (hfig _).mono ?_
  rintro e w2 ⟨rfl, hb2⟩
  have TB := Lib.hid (two_below TA.out hb2)
  clear hb2
  obtain ⟨ys, ⟨y0, y1, y2⟩, g0, g1, g2⟩ := two_facts TB.out
  go_wp2_with fail
  refine (hpx _).mono ?_
  rintro e w3 ⟨rfl, rfl⟩
  go_wp2_with fail
  refine (hqu _).mono ?_
  rintro e w4 ⟨rfl, hb2⟩
  have TC := Lib.hid (two_below TB.out hb2)
  clear hb2
  obtain ⟨us, ⟨u0, u1, u2⟩, k0, k1, k2⟩ := two_facts TC.out
  go_wp2_with fail
  refine (marks_calls _).mono ?_
  rintro e w5 ⟨g, cap, rfl, _, hg, hb2⟩
  have TD := Lib.hid (two_below TC.out hb2)
  have HG := Lib.hid hg
  clear hb2 hg
  obtain ⟨vs, ⟨v0, v1, v2⟩, l0, l1, l2⟩ := two_facts TD.out
  go_wp2_with fail
  refine (hfm g cap _ (by have := TD.out.2.2.2; omega) vs HG.out).mono ?_
  rintro e w6 ⟨rfl, hb2⟩
  have TE := Lib.hid (two_below TD.out hb2)
  clear hb2
  obtain ⟨xs, ⟨x0, x1, x2⟩, f0, f1, f2⟩ := two_facts TE.out
  have TW := TE
  go_wp2_with fail
  refine bodyPost_ret (results_ct rfl _ _ (w.heap.size + 1) 71 #[.int .i64 0, .string ⟨#[]⟩, .int .i64 0] (0, 0) _ rfl (blk_put (cs := #[.int .i64 0, .string ⟨#[]⟩, .int .i64 0]) (blk_put (cs := #[.int .i64 0, .string ⟨#[]⟩, .int .i64 0]) (blk_put (cs := #[.int .i64 0, .string ⟨#[]⟩, .int .i64 0]) TW.out.2.1 0 _ rfl) 1 _ rfl) 2 _ rfl) Tryd.underlying71 rfl (by kernel_rfl)) rfl ?_
  exact ⟨rfl, ((TW.out.2.2.1.setCell (by simp) _).setCell (by simp) _).setCell (by simp) _⟩
set_option maxRecDepth 100000 in
set_option maxHeartbeats 8000000 in
theorem one_late_some (s : ByteArray) (c : UInt8) (r : List UInt8) (hs : s.data.toList = c :: r) (hz : s.size ≤ 1000000) (hc : letR (c.toNat : Int) = false) (hf : figR (c.toNat : Int) = false) (hq : c = 39) (t : ByteArray) (n : Int) (ht : lex_quoted.f s = some (t, n)) (h200 : ¬ (t.size : Int) ≤ 200) (j : Nat) (hj : j < 12) (hm : markI s.data.toList = j) (w : World) :
    Calls Tryd.prog 58 #[.string s] w (OnePost 3 marksB[j]! (marksB[j]!.size : Int) w) := by
  obtain ⟨hp, hs0⟩ := first_byte s c r hs
  have hsp : decide ((0 : Int) < (s.size : Int)) = true := decide_eq_true (by omega)
  have hw32 := wrap32_byte c
  have hlet := fun W => letter_calls (c.toNat : Int) W
  rw [hc] at hlet
  have hfig := fun W => containsRune_figs (c.toNat : Int) (by omega) (by have := c.toNat_lt; omega) W
  rw [hf] at hfig
  have hpx := fun W => Tryd.strings_HasPrefix s quo W
  rw [hs, has_quo, hq, show ((39 : UInt8) == 39) = true from rfl] at hpx
  have hqu := fun W => lex_quoted.calls s t n W ht
  have hd : decide ((t.size : Int) ≤ 200) = false := decide_eq_false h200
  clear h200 hq ht
  have hfm := fun (g cap : Nat) (W : World) hB hc hg => find_mark s w.heap.size g cap W hB hc hg
  rw [hm] at hfm
  obtain ⟨M, hM⟩ : ∃ M, marksB[j]! = M := ⟨_, rfl⟩
  rw [hM]
  have hd0 : decide ((0 : Int) ≤ (j : Int)) = true := decide_eq_true (by omega)
  have hj12 : decide ((j : Int) < 12) = true := decide_eq_true (by omega)
  have hj12' : (j : Int) < 12 := by omega
  have hj0 : (0 : Int) ≤ (j : Int) := by omega
  go_enter Tryd.func58, Tryd.ntmps58
  go_wp2_with fail
  refine (hlet _).mono ?_
  rintro e w1 ⟨rfl, n1, rfl⟩
  have TA := Lib.hid (two_drewN (two_new w s) n1)
  go_wp2_with fail
  refine (hfig _).mono ?_
  rintro e w2 ⟨rfl, hb2⟩
  have TB := Lib.hid (two_below TA.out hb2)
  clear hb2
  obtain ⟨ys, ⟨y0, y1, y2⟩, g0, g1, g2⟩ := two_facts TB.out
  go_wp2_with fail
  refine (hpx _).mono ?_
  rintro e w3 ⟨rfl, rfl⟩
  go_wp2_with fail
  refine (hqu _).mono ?_
  rintro e w4 ⟨rfl, hb2⟩
  have TC := Lib.hid (two_below TB.out hb2)
  clear hb2
  obtain ⟨us, ⟨u0, u1, u2⟩, k0, k1, k2⟩ := two_facts TC.out
  go_wp2_with fail
  refine (marks_calls _).mono ?_
  rintro e w5 ⟨g, cap, rfl, _, hg, hb2⟩
  have TD := Lib.hid (two_below TC.out hb2)
  have HG := Lib.hid hg
  clear hb2 hg
  obtain ⟨vs, ⟨v0, v1, v2⟩, l0, l1, l2⟩ := two_facts TD.out
  go_wp2_with fail
  refine (hfm g cap _ (by have := TD.out.2.2.2; omega) vs HG.out).mono ?_
  rintro e w6 ⟨rfl, hb2⟩
  have TE := Lib.hid (two_below TD.out hb2)
  clear hb2
  go_wp2_with fail
  go_region_with (first | (go_at_call 75; refine (marks_calls _).mono ?_; rintro e w7 ⟨g2, cap2, rfl, ⟨hge, hlt⟩, hg, hb2⟩; have hge2 := Nat.le_trans (two_size (by first | exact TG.out | exact TE.out | exact two_drew TG.out | exact two_drew TE.out)) hge; have hne : ¬ g2 = w.heap.size + 1 := (by omega); have hne2 : ¬ w.heap.size + 1 = g2 := (by omega); clear hge hge2; have hx2 : w7.cell? ⟨g2, j, none⟩ = some (.string M) := (hg j hj).trans (by rw [hM]); (try have hxo := (hb2.cell (p := ⟨_, j, none⟩) HLT.out).trans HX.out); have TG := Lib.hid (two_below (by repeat (first | exact TG.out | exact TE.out | exact two_drew TG.out | exact two_drew TE.out)) hb2); have HX := Lib.hid hx2; have HLT := Lib.hid hlt; obtain ⟨zs, ⟨z0, z1, z2⟩, m0, m1, m2⟩ := two_facts TG.out; clear hb2 hg))
  all_goals (
  have TW := TG
  go_wp2_with fail
  refine bodyPost_ret (results_ct rfl _ _ (w.heap.size + 1) 71 #[.int .i64 3, .string M, .int .i64 0] (0, 0) _ rfl (blk_put (cs := #[.int .i64 3, .string M, .int .i64 0]) (blk_put (cs := #[.int .i64 3, .string ⟨#[]⟩, .int .i64 0]) (blk_put (cs := #[.int .i64 0, .string ⟨#[]⟩, .int .i64 0]) TW.out.2.1 0 _ rfl) 1 _ rfl) 2 _ rfl) Tryd.underlying71 rfl (by kernel_rfl)) rfl ?_
  exact ⟨rfl, ((TW.out.2.2.1.setCell (by simp) _).setCell (by simp) _).setCell (by simp) _⟩)
end Go.Proofs.YtkggdnnhgafopaaDoor
