/- What lex reads of a text, part five: the word that comes; for every text. -/
import Derived.Test.YtkggdnnhgafopaaDoorLex4
set_option linter.unusedVariables false
set_option linter.unusedSimpArgs false
namespace Go.Proofs.YtkggdnnhgafopaaDoor
open Go.RowKit Go.Lib Go.Shelf Go.Proofs.YtkggdnnhgafopaaDoorW.PrintWords
theorem e69 : ∀ args w, (callFunc 69 args).run Tryd.prog w = .ok (.enter 69 args) w := enters_of Tryd.func69 (by kernel_rfl) rfl
theorem e71 : ∀ args w, (callFunc 71 args).run Tryd.prog w = .ok (.enter 71 args) w := enters_of Tryd.func71 (by kernel_rfl) rfl
theorem e76 : ∀ args w, (callFunc 76 args).run Tryd.prog w = .ok (.enter 76 args) w := enters_of Tryd.func76 (by kernel_rfl) rfl
theorem len_name (s : ByteArray) (w : World) : Calls Tryd.prog 68 #[.string s, .func (.func 69) #[] #[]] w fun e w' => e = .returned (.int .i64 (lenB (fun n => nameR n) s)) ∧ Below w.heap.size w w' :=
  length_calls _ e69 _ s w (wants_name' w)
theorem len_fig (s : ByteArray) (w : World) : Calls Tryd.prog 68 #[.string s, .func (.func 71) #[] #[]] w fun e w' => e = .returned (.int .i64 (lenB (fun n => figR n) s)) ∧ Below w.heap.size w w' :=
  length_calls _ e71 _ s w (wants_fig' w)
theorem below_two {B : Nat} {w w1 w2 : World} (h : Below B w w1) (hB : B ≤ w.heap.size) (hb : Below w1.heap.size w1 w2) : Below B w w2 :=
  h.trans ⟨hb.os, hb.tape, hb.output, hb.size, fun k hk => hb.block k (Nat.lt_of_lt_of_le hk (Nat.le_trans hB h.size))⟩
theorem blk_facts {w : World} {b : Nat} {c0 c1 c2 : Value} {T : TypeId} (h : w.heap[b]? = some (.cells #[c0, c1, c2] T (0, 0))) :
    (w.cell? ⟨b, 0, none⟩ = some c0 ∧ w.cell? ⟨b, 1, none⟩ = some c1 ∧ w.cell? ⟨b, 2, none⟩ = some c2) ∧ w.frozen? ⟨b, 0, none⟩ = false ∧ w.frozen? ⟨b, 1, none⟩ = false ∧ w.frozen? ⟨b, 2, none⟩ = false := by
  refine ⟨⟨?_, ?_, ?_⟩, Lib.frozen_of_heap h 0, Lib.frozen_of_heap h 1, Lib.frozen_of_heap h 2⟩ <;> (rw [Lib.cell_of_heap h]; rfl)
/-- The two boxes of the function's own (the text, the word), and nothing else turned. -/
def Two (w : World) (s : ByteArray) (W : World) : Prop :=
  W.heap[w.heap.size]? = some (.cells #[.string s] 9 (0, 0)) ∧ W.heap[w.heap.size + 1]? = some (.cells #[.int .i64 0, .string ⟨#[]⟩, .int .i64 0] 71 (0, 0)) ∧ Below w.heap.size w W ∧ w.heap.size + 2 ≤ W.heap.size
theorem two_new (w : World) (s : ByteArray) : Two w s ((w.alloc (.cells #[.string s] 9)).alloc (.cells #[.int .i64 0, .string ⟨#[]⟩, .int .i64 0] 71)) := by
  refine ⟨?_, ?_, ((Below.refl _ _).alloc (Nat.le_refl _) _).alloc (by simp) _, by simp⟩
  · rw [Lib.alloc_old _ _ _ (by simp)]; exact heap_alloc_new w _
  · have := heap_alloc_new (w.alloc (.cells #[.string s] 9)) (.cells #[.int .i64 0, .string ⟨#[]⟩, .int .i64 0] 71)
    simpa using this
theorem two_below {w W W' : World} {s : ByteArray} (h : Two w s W) (hb : Below W.heap.size W W') : Two w s W' := by
  obtain ⟨a, b, c, d⟩ := h
  exact ⟨(hb.block _ (by omega)).trans a, (hb.block _ (by omega)).trans b, c.trans (hb.mono (by omega)), Nat.le_trans d hb.size⟩
theorem two_drewN {w W : World} {s : ByteArray} (h : Two w s W) (n : Nat) : Two w s (W.drewN n) := two_below h (below_drews _ _)
theorem two_facts {w W : World} {s : ByteArray} (h : Two w s W) : W.cell? ⟨w.heap.size, 0, none⟩ = some (.string s) ∧
    ((W.cell? ⟨w.heap.size + 1, 0, none⟩ = some (.int .i64 0) ∧ W.cell? ⟨w.heap.size + 1, 1, none⟩ = some (.string ⟨#[]⟩) ∧ W.cell? ⟨w.heap.size + 1, 2, none⟩ = some (.int .i64 0)) ∧ W.frozen? ⟨w.heap.size + 1, 0, none⟩ = false ∧ W.frozen? ⟨w.heap.size + 1, 1, none⟩ = false ∧ W.frozen? ⟨w.heap.size + 1, 2, none⟩ = false) :=
  ⟨by rw [Lib.cell_of_heap h.1]; rfl, blk_facts h.2.1⟩
theorem first_byte (s : ByteArray) (c : UInt8) (r : List UInt8) (hs : s.data.toList = c :: r) : 0 < s.size ∧ ∀ h : 0 < s.size, s[0]'h = c := by
  have hl : s.size = r.length + 1 := by have := congrArg List.length hs; rw [Array.length_toList] at this; exact this
  refine ⟨by omega, fun h => ?_⟩
  show s.data[0] = c
  have h2 : s.data.toList[0]'(by rw [hs]; simp) = c := by simp [hs]
  rw [← h2]; simp
theorem wrap32_byte (c : UInt8) : wrap32 (c.toNat : Int) = (c.toNat : Int) := by have := c.toNat_lt; unfold wrap32; omega
theorem has_quo (c : UInt8) (r : List UInt8) : Lib.hasPrefix (c :: r) quo.data.toList = (c == 39) := by
  have e := prefix1 (c :: r)
  have : quo.data.toList = [39] := rfl
  rw [this, e]
  by_cases h : c = 39 <;> simp [h]
/-- What a way through the function ends in. -/
def OnePost (k : Int) (t : ByteArray) (n : Int) (w : World) (e : Ending) (w' : World) : Prop := e = .returned (.tuple #[.agg #[.int .i64 k, .string t, .int .i64 0], .int .i64 n]) ∧ Below w.heap.size w w'
set_option maxRecDepth 100000 in
set_option maxHeartbeats 8000000 in
theorem one_name (s : ByteArray) (c : UInt8) (r : List UInt8) (hs : s.data.toList = c :: r) (hz : s.size ≤ 1000000) (hc : letR (c.toNat : Int) = true) (L : Int) (hL : lenB (fun n => nameR n) s = L) (h0 : 0 ≤ L) (h1 : L ≤ s.size) (h20 : L ≤ 20) (w : World) :
    Calls Tryd.prog 58 #[.string s] w (OnePost 0 (s.extract 0 L.toNat) L w) := by
  obtain ⟨hp, hs0⟩ := first_byte s c r hs
  have hsp : decide ((0 : Int) < (s.size : Int)) = true := decide_eq_true (by omega)
  have hw32 := wrap32_byte c
  have hlet := fun W => letter_calls (c.toNat : Int) W
  rw [hc] at hlet
  have hlen := fun W => len_name s W
  rw [hL] at hlen
  have hd : decide (L ≤ 20) = true := decide_eq_true h20
  clear h20
  go_enter Tryd.func58, Tryd.ntmps58
  go_wp2_with fail
  refine (hlet _).mono ?_
  rintro e w1 ⟨rfl, n1, rfl⟩
  have TA := Lib.hid (two_drewN (two_new w s) n1)
  go_wp2_with fail
  refine (hlen _).mono ?_
  rintro e w2 ⟨rfl, hb2⟩
  have TB := Lib.hid (two_below TA.out hb2)
  clear hb2 TA
  obtain ⟨xs, ⟨x0, x1, x2⟩, f0, f1, f2⟩ := two_facts TB.out
  have TW := TB
  clear hlen hlet hs0
  go_wp2_with fail
  refine bodyPost_ret (results_ct rfl _ _ (w.heap.size + 1) 71 #[.int .i64 0, .string (s.extract 0 L.toNat), .int .i64 0] (0, 0) _ rfl (blk_put (cs := #[.int .i64 0, .string (s.extract 0 L.toNat), .int .i64 0]) (blk_put (cs := #[.int .i64 0, .string ⟨#[]⟩, .int .i64 0]) (blk_put (cs := #[.int .i64 0, .string ⟨#[]⟩, .int .i64 0]) TW.out.2.1 0 _ rfl) 1 _ rfl) 2 _ rfl) Tryd.underlying71 rfl (by kernel_rfl)) rfl ?_
  exact ⟨rfl, ((TW.out.2.2.1.setCell (by simp) _).setCell (by simp) _).setCell (by simp) _⟩
set_option maxRecDepth 100000 in
set_option maxHeartbeats 8000000 in
theorem one_name_long (s : ByteArray) (c : UInt8) (r : List UInt8) (hs : s.data.toList = c :: r) (hz : s.size ≤ 1000000) (hc : letR (c.toNat : Int) = true) (L : Int) (hL : lenB (fun n => nameR n) s = L) (h0 : 0 ≤ L) (h1 : L ≤ s.size) (h20 : ¬ L ≤ 20) (w : World) :
    Calls Tryd.prog 58 #[.string s] w (OnePost 0 ⟨#[]⟩ 0 w) := by
  obtain ⟨hp, hs0⟩ := first_byte s c r hs
  have hsp : decide ((0 : Int) < (s.size : Int)) = true := decide_eq_true (by omega)
  have hw32 := wrap32_byte c
  have hlet := fun W => letter_calls (c.toNat : Int) W
  rw [hc] at hlet
  have hlen := fun W => len_name s W
  rw [hL] at hlen
  have hd : decide (L ≤ 20) = false := decide_eq_false h20
  clear h20
  go_enter Tryd.func58, Tryd.ntmps58
  go_wp2_with fail
  refine (hlet _).mono ?_
  rintro e w1 ⟨rfl, n1, rfl⟩
  have TA := Lib.hid (two_drewN (two_new w s) n1)
  go_wp2_with fail
  refine (hlen _).mono ?_
  rintro e w2 ⟨rfl, hb2⟩
  have TB := Lib.hid (two_below TA.out hb2)
  clear hb2 TA
  obtain ⟨xs, ⟨x0, x1, x2⟩, f0, f1, f2⟩ := two_facts TB.out
  have TW := TB
  clear hlen hlet hs0
  go_wp2_with fail
  refine bodyPost_ret (results_ct rfl _ _ (w.heap.size + 1) 71 #[.int .i64 0, .string ⟨#[]⟩, .int .i64 0] (0, 0) _ rfl (blk_put (cs := #[.int .i64 0, .string ⟨#[]⟩, .int .i64 0]) (blk_put (cs := #[.int .i64 0, .string ⟨#[]⟩, .int .i64 0]) (blk_put (cs := #[.int .i64 0, .string ⟨#[]⟩, .int .i64 0]) TW.out.2.1 0 _ rfl) 1 _ rfl) 2 _ rfl) Tryd.underlying71 rfl (by kernel_rfl)) rfl ?_
  exact ⟨rfl, ((TW.out.2.2.1.setCell (by simp) _).setCell (by simp) _).setCell (by simp) _⟩
set_option maxRecDepth 100000 in
set_option maxHeartbeats 8000000 in
theorem one_fig (s : ByteArray) (c : UInt8) (r : List UInt8) (hs : s.data.toList = c :: r) (hz : s.size ≤ 1000000) (hc : letR (c.toNat : Int) = false) (hf : figR (c.toNat : Int) = true) (L : Int) (hL : lenB (fun n => figR n) s = L) (h0 : 0 ≤ L) (h1 : L ≤ s.size) (h20 : L ≤ 19) (w : World) :
    Calls Tryd.prog 58 #[.string s] w (OnePost 1 (s.extract 0 L.toNat) L w) := by
  obtain ⟨hp, hs0⟩ := first_byte s c r hs
  have hsp : decide ((0 : Int) < (s.size : Int)) = true := decide_eq_true (by omega)
  have hw32 := wrap32_byte c
  have hlet := fun W => letter_calls (c.toNat : Int) W
  rw [hc] at hlet
  have hfig := fun W => containsRune_figs (c.toNat : Int) (by omega) (by have := c.toNat_lt; omega) W
  rw [hf] at hfig
  have hlen := fun W => len_fig s W
  rw [hL] at hlen
  have hd : decide (L ≤ 19) = true := decide_eq_true h20
  clear h20
  go_enter Tryd.func58, Tryd.ntmps58
  go_wp2_with fail
  refine (hlet _).mono ?_
  rintro e w1 ⟨rfl, n1, rfl⟩
  have TA := Lib.hid (two_drewN (two_new w s) n1)
  go_wp2_with fail
  refine (hfig _).mono ?_
  rintro e w2 ⟨rfl, hb2⟩
  have TB := Lib.hid (two_below TA.out hb2)
  clear hb2
  obtain ⟨ys, ⟨y0, y1, y2⟩, g0, g1, g2⟩ := two_facts TB.out
  go_wp2_with fail
  refine (hlen _).mono ?_
  rintro e w3 ⟨rfl, hb2⟩
  have TC := Lib.hid (two_below TB.out hb2)
  clear hb2 TA TB
  obtain ⟨xs, ⟨x0, x1, x2⟩, f0, f1, f2⟩ := two_facts TC.out
  have TW := TC
  clear hlen hlet hfig hs0
  go_wp2_with fail
  refine bodyPost_ret (results_ct rfl _ _ (w.heap.size + 1) 71 #[.int .i64 1, .string (s.extract 0 L.toNat), .int .i64 0] (0, 0) _ rfl (blk_put (cs := #[.int .i64 1, .string (s.extract 0 L.toNat), .int .i64 0]) (blk_put (cs := #[.int .i64 1, .string ⟨#[]⟩, .int .i64 0]) (blk_put (cs := #[.int .i64 0, .string ⟨#[]⟩, .int .i64 0]) TW.out.2.1 0 _ rfl) 1 _ rfl) 2 _ rfl) Tryd.underlying71 rfl (by kernel_rfl)) rfl ?_
  exact ⟨rfl, ((TW.out.2.2.1.setCell (by simp) _).setCell (by simp) _).setCell (by simp) _⟩
set_option maxRecDepth 100000 in
set_option maxHeartbeats 8000000 in
theorem one_fig_long (s : ByteArray) (c : UInt8) (r : List UInt8) (hs : s.data.toList = c :: r) (hz : s.size ≤ 1000000) (hc : letR (c.toNat : Int) = false) (hf : figR (c.toNat : Int) = true) (L : Int) (hL : lenB (fun n => figR n) s = L) (h0 : 0 ≤ L) (h1 : L ≤ s.size) (h20 : ¬ L ≤ 19) (w : World) :
    Calls Tryd.prog 58 #[.string s] w (OnePost 0 ⟨#[]⟩ 0 w) := by
  obtain ⟨hp, hs0⟩ := first_byte s c r hs
  have hsp : decide ((0 : Int) < (s.size : Int)) = true := decide_eq_true (by omega)
  have hw32 := wrap32_byte c
  have hlet := fun W => letter_calls (c.toNat : Int) W
  rw [hc] at hlet
  have hfig := fun W => containsRune_figs (c.toNat : Int) (by omega) (by have := c.toNat_lt; omega) W
  rw [hf] at hfig
  have hlen := fun W => len_fig s W
  rw [hL] at hlen
  have hd : decide (L ≤ 19) = false := decide_eq_false h20
  clear h20
  go_enter Tryd.func58, Tryd.ntmps58
  go_wp2_with fail
  refine (hlet _).mono ?_
  rintro e w1 ⟨rfl, n1, rfl⟩
  have TA := Lib.hid (two_drewN (two_new w s) n1)
  go_wp2_with fail
  refine (hfig _).mono ?_
  rintro e w2 ⟨rfl, hb2⟩
  have TB := Lib.hid (two_below TA.out hb2)
  clear hb2
  obtain ⟨ys, ⟨y0, y1, y2⟩, g0, g1, g2⟩ := two_facts TB.out
  go_wp2_with fail
  refine (hlen _).mono ?_
  rintro e w3 ⟨rfl, hb2⟩
  have TC := Lib.hid (two_below TB.out hb2)
  clear hb2 TA TB
  obtain ⟨xs, ⟨x0, x1, x2⟩, f0, f1, f2⟩ := two_facts TC.out
  have TW := TC
  clear hlen hlet hfig hs0
  go_wp2_with fail
  refine bodyPost_ret (results_ct rfl _ _ (w.heap.size + 1) 71 #[.int .i64 0, .string ⟨#[]⟩, .int .i64 0] (0, 0) _ rfl (blk_put (cs := #[.int .i64 0, .string ⟨#[]⟩, .int .i64 0]) (blk_put (cs := #[.int .i64 0, .string ⟨#[]⟩, .int .i64 0]) (blk_put (cs := #[.int .i64 0, .string ⟨#[]⟩, .int .i64 0]) TW.out.2.1 0 _ rfl) 1 _ rfl) 2 _ rfl) Tryd.underlying71 rfl (by kernel_rfl)) rfl ?_
  exact ⟨rfl, ((TW.out.2.2.1.setCell (by simp) _).setCell (by simp) _).setCell (by simp) _⟩
set_option maxRecDepth 100000 in
set_option maxHeartbeats 8000000 in
theorem one_quote (s : ByteArray) (c : UInt8) (r : List UInt8) (hs : s.data.toList = c :: r) (hz : s.size ≤ 1000000) (hc : letR (c.toNat : Int) = false) (hf : figR (c.toNat : Int) = false) (hq : c = 39) (t : ByteArray) (n : Int) (ht : lex_quoted.f s = some (t, n)) (h200 : (t.size : Int) ≤ 200) (w : World) :
    Calls Tryd.prog 58 #[.string s] w (OnePost 2 t n w) := by
  obtain ⟨hp, hs0⟩ := first_byte s c r hs
  have hsp : decide ((0 : Int) < (s.size : Int)) = true := decide_eq_true (by omega)
  have hw32 := wrap32_byte c
  have hlet := fun W => letter_calls (c.toNat : Int) W
  rw [hc] at hlet
  have hfig := fun W => containsRune_figs (c.toNat : Int) (by omega) (by have := c.toNat_lt; omega) W
  rw [hf] at hfig
  have hpx := fun W => Tryd.strings_HasPrefix s quo W
  rw [hs, has_quo, hq, show ((39 : UInt8) == 39) = true from rfl] at hpx
  have hqu := fun W => lex_quoted.calls s t n W ht
  have hd : decide ((t.size : Int) ≤ 200) = true := decide_eq_true h200
  clear h200 hq ht
  go_enter Tryd.func58, Tryd.ntmps58
  go_wp2_with fail
  refine (hlet _).mono ?_
  rintro e w1 ⟨rfl, n1, rfl⟩
  have TA := Lib.hid (two_drewN (two_new w s) n1)
  go_wp2_with fail
  refine (hfig _).mono ?_
  rintro e w2 ⟨rfl, hb2⟩
  have TB := Lib.hid (two_below TA.out hb2)
  clear hb2
  obtain ⟨ys, ⟨y0, y1, y2⟩, g0, g1, g2⟩ := two_facts TB.out
  go_wp2_with fail
  refine (hpx _).mono ?_
  rintro e w3 ⟨rfl, rfl⟩
  go_wp2_with fail
  refine (hqu _).mono ?_
  rintro e w4 ⟨rfl, hb2⟩
  have TC := Lib.hid (two_below TB.out hb2)
  clear hb2 TA TB
  obtain ⟨xs, ⟨x0, x1, x2⟩, f0, f1, f2⟩ := two_facts TC.out
  have TW := TC
  clear hpx hqu hlet hfig hs0
  go_wp2_with fail
  refine bodyPost_ret (results_ct rfl _ _ (w.heap.size + 1) 71 #[.int .i64 2, .string t, .int .i64 0] (0, 0) _ rfl (blk_put (cs := #[.int .i64 2, .string t, .int .i64 0]) (blk_put (cs := #[.int .i64 2, .string ⟨#[]⟩, .int .i64 0]) (blk_put (cs := #[.int .i64 0, .string ⟨#[]⟩, .int .i64 0]) TW.out.2.1 0 _ rfl) 1 _ rfl) 2 _ rfl) Tryd.underlying71 rfl (by kernel_rfl)) rfl ?_
  exact ⟨rfl, ((TW.out.2.2.1.setCell (by simp) _).setCell (by simp) _).setCell (by simp) _⟩
end Go.Proofs.YtkggdnnhgafopaaDoor
