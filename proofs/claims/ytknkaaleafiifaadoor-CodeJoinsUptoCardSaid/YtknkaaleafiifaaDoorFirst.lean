/- The first value out of bytes: what code.first comes to; of at most 2^40 bytes. -/
import Derived.Test.YtknkaaleafiifaaDoorText
import Derived.Test.YtknkaaleafiifaaDoorGetN
import Derived.Deep.RegionHeld3
import Derived.Deep.RegionWith
set_option linter.unusedVariables false
namespace Go.Proofs.YtknkaaleafiifaaDoor
open Go.RowKit Go.Proofs.YtknkaaleafiifaaDoorW.PrintWords

/-- The value that comes: its kind, its number, its text, and how many bytes it has. -/
def firstL : List UInt8 → Option (Int × Int × List UInt8 × Nat)
  | [] => none
  | c :: r =>
    if c = 0 then some (0, 0, [], 1)
    else if c = 1 then (match r with | [] => none | d :: _ => if d = 0 ∨ d = 1 then some (1, d.toNat, [], 2) else none)
    else if c = 2 then (if 4 ≤ r.length then some (2, numL (r.take 4) - 2147483648, [], 5) else none)
    else if c = 3 then (if 8 ≤ r.length then some (3, numL (r.take 8) - 9223372036854775808, [], 9) else none)
    else if c = 4 then (match textL r with | none => none | some (t, n) => if t.length ≤ 200 then some (4, 0, t, n + 1) else none)
    else none
def firstR (o : Option (Int × Int × List UInt8 × Nat)) : Int × Int × ByteArray × Int :=
  match o with | some (k, n, t, m) => (k, n, ⟨t.toArray⟩, (m : Int)) | none => (0, 0, ⟨#[]⟩, -1)
def code_first.f (s : ByteArray) : Option (Int × Int × ByteArray × Int) :=
  if s.size ≤ 1099511627776 then some (firstR (firstL s.data.toList)) else none

theorem head_facts (s : ByteArray) (c : UInt8) (r : List UInt8) (hs : s.data.toList = c :: r) :
    s.toList.isEmpty = false ∧ s.size = r.length + 1 ∧ (∀ h : 0 < s.size, s[0]'h = c) ∧ (s.extract 1 s.size).data.toList = r := by
  have hl : s.size = r.length + 1 := by
    have := congrArg List.length hs
    rw [Array.length_toList] at this
    exact this
  refine ⟨by rw [ByteArray.toList_eq, hs]; rfl, hl, fun h => ?_, by rw [Lib.extract_to_end, hs]; rfl⟩
  show s.data[0] = c
  have h2 : s.data.toList[0]'(by rw [hs]; simp) = c := by simp [hs]
  rw [← h2]; simp
theorem blk_facts {w : World} {b : Nat} {c0 c1 c2 : Value} {T : TypeId} (h : w.heap[b]? = some (.cells #[c0, c1, c2] T (0, 0))) :
    (w.cell? ⟨b, 0, none⟩ = some c0 ∧ w.cell? ⟨b, 1, none⟩ = some c1 ∧ w.cell? ⟨b, 2, none⟩ = some c2) ∧ w.frozen? ⟨b, 0, none⟩ = false ∧ w.frozen? ⟨b, 1, none⟩ = false ∧ w.frozen? ⟨b, 2, none⟩ = false := by
  refine ⟨⟨?_, ?_, ?_⟩, Lib.frozen_of_heap h 0, Lib.frozen_of_heap h 1, Lib.frozen_of_heap h 2⟩ <;> (rw [Lib.cell_of_heap h]; rfl)
theorem two_boxes {w w2 : World} {c0 c1 c2 d0 d1 d2 : Value} {T : TypeId} (hb : Below ((w.alloc (.cells #[c0, c1, c2] T)).alloc (.cells #[d0, d1, d2] T)).heap.size ((w.alloc (.cells #[c0, c1, c2] T)).alloc (.cells #[d0, d1, d2] T)) w2) :
    w2.heap[w.heap.size]? = some (.cells #[c0, c1, c2] T (0, 0)) ∧ w2.heap[w.heap.size + 1]? = some (.cells #[d0, d1, d2] T (0, 0)) ∧ Below w.heap.size w w2 := by
  refine ⟨?_, ?_, ?_⟩
  · rw [hb.block _ (by simp; omega), Lib.alloc_old _ _ _ (by simp)]; exact heap_alloc_new w _
  · rw [hb.block _ (by simp)]
    have := heap_alloc_new (w.alloc (.cells #[c0, c1, c2] T)) (.cells #[d0, d1, d2] T)
    simpa using this
  · exact (((Below.refl _ _).alloc (Nat.le_refl _) _).alloc (by simp) _).trans (hb.mono (by simp; omega))
theorem empty_toList : (⟨#[]⟩ : ByteArray).toList = [] := by rw [ByteArray.toList_eq]
theorem right_num {k n : Int} (h : k = 0 ∧ n = 0 ∨ k = 1 ∧ (n = 0 ∨ n = 1) ∨ k = 2 ∧ -2147483648 ≤ n ∧ n ≤ 2147483647 ∨ k = 3) : rightV k n ⟨#[]⟩ = true := by
  unfold rightV
  rw [if_neg (by omega), if_pos empty_toList]
  rcases h with ⟨rfl, rfl⟩ | ⟨rfl, h⟩ | ⟨rfl, h⟩ | rfl
  · simp
  · simp; exact h
  · simp; omega
  · simp
theorem wrong_num {k n : Int} (h : k = 1 ∧ n ≠ 0 ∧ n ≠ 1 ∨ 5 ≤ k) : rightV k n ⟨#[]⟩ = false := by
  unfold rightV
  rw [if_neg (by omega), if_pos empty_toList]
  rcases h with ⟨rfl, h1, h2⟩ | h
  · simp [h1, h2]
  · rw [if_neg (by omega), if_neg (by omega), if_neg (by omega)]; simp; omega
theorem eight_of (l : List UInt8) (h : l.length = 8) : ∃ c0 c1 c2 c3 c4 c5 c6 c7, l = [c0, c1, c2, c3, c4, c5, c6, c7] := by
  match l, h with
  | [c0, c1, c2, c3, c4, c5, c6, c7], _ => exact ⟨_, _, _, _, _, _, _, _, rfl⟩
theorem four_of (l : List UInt8) (h : l.length = 4) : ∃ c0 c1 c2 c3, l = [c0, c1, c2, c3] := by
  match l, h with
  | [c0, c1, c2, c3], _ => exact ⟨_, _, _, _, rfl⟩
theorem get_take (X : ByteArray) (r : List UInt8) (hX : X.data.toList = r) (hl : 8 ≤ r.length) : Kp.num_Get.f (0 + 9) (X.extract 0 8) = some (numL (r.take 8), 0) ∧ 0 ≤ numL (r.take 8) ∧ numL (r.take 8) ≤ 18446744073709551615 := by
  obtain ⟨c0, c1, c2, c3, c4, c5, c6, c7, h⟩ := eight_of (r.take 8) (by rw [List.length_take]; omega)
  have e : (X.extract 0 8).data.toList = [c0, c1, c2, c3, c4, c5, c6, c7] := by rw [Lib.extract_data, hX]; simpa using h
  rw [h]
  exact ⟨get_eight 0 _ c0 c1 c2 c3 c4 c5 c6 c7 e, numL_range c0 c1 c2 c3 c4 c5 c6 c7⟩
theorem get_wide (X S : ByteArray) (r : List UInt8) (hX : X.data.toList = r) (hl : 4 ≤ r.length) (hS : (S.extract 4 8).data.toList = [0, 0, 0, 0]) : Kp.num_Get.f (0 + 9) (S.extract 4 8 ++ X.extract 0 4) = some (numL (r.take 4), 0) ∧ 0 ≤ numL (r.take 4) ∧ numL (r.take 4) ≤ 4294967295 := by
  obtain ⟨c0, c1, c2, c3, h⟩ := four_of (r.take 4) (by rw [List.length_take]; omega)
  have e : (S.extract 4 8 ++ X.extract 0 4).data.toList = [0, 0, 0, 0, c0, c1, c2, c3] := by
    rw [ByteArray.data_append, Array.toList_append, hS, Lib.extract_data, hX]
    have : (r.drop 0).take (4 - 0) = [c0, c1, c2, c3] := by simpa using h
    rw [this]; rfl
  rw [h]
  have n4 := numL_four c0 c1 c2 c3
  rw [← n4.2.2]
  refine ⟨get_eight 0 _ 0 0 0 0 c0 c1 c2 c3 e, ?_⟩
  rw [n4.2.2]; exact ⟨n4.1, n4.2.1⟩
theorem blk_new2 (w : World) (c d : Obj) : ((w.alloc c).alloc d).heap[w.heap.size + 1]? = some d := by
  have := heap_alloc_new (w.alloc c) d
  simpa using this
theorem back32 (V : Int) (h0 : 0 ≤ V) (h1 : V ≤ 4294967295) : wrap64 (wrap32 (bits .xor .u32 V 2147483648)) = V - 2147483648 := by
  have hb : 0 ≤ bits .xor .u32 V 2147483648 ∧ bits .xor .u32 V 2147483648 < 4294967296 := by
    simp only [bits]; rw [IntKind.wrap_u32]; omega
  by_cases h : V < 2147483648
  · have e := NumPl.xor_top_u32 V ⟨by omega, by omega⟩
    rw [show V % 4294967296 = V by omega, IntKind.wrap_u64] at e
    have e2 : bits .xor .u32 V 2147483648 = V + 2147483648 := by omega
    rw [e2]; unfold wrap64 wrap32; omega
  · have e := NumPl.xor_top_u32 (V - 4294967296) ⟨by omega, by omega⟩
    rw [show (V - 4294967296) % 4294967296 = V by omega, IntKind.wrap_u64] at e
    have e2 : bits .xor .u32 V 2147483648 = V - 2147483648 := by omega
    rw [e2]; unfold wrap64 wrap32; omega
def FirstPost (x : Int × Int × ByteArray × Int) (w : World) (e : Ending) (w' : World) : Prop :=
  e = .returned (.tuple #[.agg #[.int .i64 x.1, .int .i64 x.2.1, .string x.2.2.1], .int .i64 x.2.2.2]) ∧ Below w.heap.size w w'

set_option maxRecDepth 100000 in
set_option maxHeartbeats 8000000 in
theorem first_empty (s : ByteArray) (hs : s.data.toList = []) (w : World) :
    Calls Tryd.prog 20 #[.string s] w (FirstPost (0, 0, ⟨#[]⟩, -1) w) := by
  have h1 : s.toList = [] := by rw [ByteArray.toList_eq]; exact hs
  have h2 : s.toList.isEmpty = true := by rw [h1]; rfl
  clear hs
  go_enter Tryd.func20, Tryd.ntmps20
  go_wp2_with fail
  go_returns
  exact ⟨rfl, by go_grown⟩

set_option maxRecDepth 100000 in
set_option maxHeartbeats 8000000 in
theorem first_null (r : List UInt8) (s : ByteArray) (hs : s.data.toList = 0 :: r) (hz : s.size ≤ 1099511627776) (w : World) :
    Calls Tryd.prog 20 #[.string s] w (FirstPost (0, 0, ⟨#[]⟩, 1) w) := by
  obtain ⟨h1, hsz, hc, hr⟩ := head_facts s _ _ hs
  have hge : 1 ≤ s.size := by omega
  have HSZ := Lib.hid hsz
  obtain ⟨X, hX⟩ : ∃ X, s.extract 1 s.size = X := ⟨_, rfl⟩
  have hXl := hr
  rw [hX] at hXl
  have hXs : X.size = s.size - 1 := by rw [← hX]; simp
  have HXL := Lib.hid hXl
  have HXS := Lib.hid hXs
  have HS := Lib.hid hs
  clear hs hr hsz hXl hXs
  go_enter Tryd.func20, Tryd.ntmps20
  go_wp2_with fail
  refine (Kp.value_Right.calls 0 0 ⟨#[]⟩ true _ (by rw [right_any, right_num (.inl ⟨rfl, rfl⟩)])).mono ?_
  rintro e w2 ⟨rfl, hb2⟩
  obtain ⟨q1, q2, hbw⟩ := two_boxes hb2
  obtain ⟨⟨x0, x1, x2⟩, f0, f1, f2⟩ := blk_facts q1
  obtain ⟨⟨y0, y1, y2⟩, _, _, _⟩ := blk_facts q2
  have hs2 := hb2.size
  simp only [World.size_alloc] at hs2
  have HBW := Lib.hid hbw
  have Q1 := Lib.hid q1
  clear hb2 hbw q1 q2
  go_wp2_with fail
  refine bodyPost_ret (results_ct rfl _ _ w.heap.size 32 #[.int .i64 0, .int .i64 0, .string ⟨#[]⟩] (0, 0) _ rfl (blk_put (cs := #[.int .i64 0, .int .i64 0, .string ⟨#[]⟩]) (blk_put (cs := #[.int .i64 0, .int .i64 0, .string ⟨#[]⟩]) (blk_put (cs := #[.int .i64 0, .int .i64 0, .string ⟨#[]⟩]) Q1.out 0 _ rfl) 1 _ rfl) 2 _ rfl) Tryd.underlying32 rfl (by kernel_rfl)) rfl ?_
  exact ⟨rfl, ((HBW.out.setCell (Nat.le_refl _) _).setCell (Nat.le_refl _) _).setCell (Nat.le_refl _) _⟩

set_option maxRecDepth 100000 in
set_option maxHeartbeats 8000000 in
theorem first_bool0 (r : List UInt8) (s : ByteArray) (hs : s.data.toList = 1 :: 0 :: r) (hz : s.size ≤ 1099511627776) (w : World) :
    Calls Tryd.prog 20 #[.string s] w (FirstPost (1, 0, ⟨#[]⟩, 2) w) := by
  obtain ⟨h1, hsz, hc, hr⟩ := head_facts s _ _ hs
  have hge : 1 ≤ s.size := by omega
  have HSZ := Lib.hid hsz
  obtain ⟨X, hX⟩ : ∃ X, s.extract 1 s.size = X := ⟨_, rfl⟩
  have hXl := hr
  rw [hX] at hXl
  have hXs : X.size = s.size - 1 := by rw [← hX]; simp
  have HXL := Lib.hid hXl
  have HXS := Lib.hid hXs
  have HS := Lib.hid hs
  have hx0 : ∀ h : 0 < X.size, X[0]'h = 0 := (head_facts _ _ _ hXl).2.2.1
  have hx1 : 1 ≤ X.size := by rw [(head_facts _ _ _ hXl).2.1]; omega
  clear hs hr hsz hXl hXs
  go_enter Tryd.func20, Tryd.ntmps20
  go_wp2_with fail
  refine (Kp.value_Right.calls 1 0 ⟨#[]⟩ true _ (by rw [right_any, right_num (.inr (.inl ⟨rfl, .inl rfl⟩))])).mono ?_
  rintro e w2 ⟨rfl, hb2⟩
  obtain ⟨q1, q2, hbw⟩ := two_boxes hb2
  obtain ⟨⟨x0, x1, x2⟩, f0, f1, f2⟩ := blk_facts q1
  obtain ⟨⟨y0, y1, y2⟩, _, _, _⟩ := blk_facts q2
  have hs2 := hb2.size
  simp only [World.size_alloc] at hs2
  have HBW := Lib.hid hbw
  have Q1 := Lib.hid q1
  clear hb2 hbw q1 q2
  go_wp2_with fail
  refine bodyPost_ret (results_ct rfl _ _ w.heap.size 32 #[.int .i64 1, .int .i64 0, .string ⟨#[]⟩] (0, 0) _ rfl (blk_put (cs := #[.int .i64 1, .int .i64 0, .string ⟨#[]⟩]) (blk_put (cs := #[.int .i64 1, .int .i64 0, .string ⟨#[]⟩]) (blk_put (cs := #[.int .i64 0, .int .i64 0, .string ⟨#[]⟩]) Q1.out 0 _ rfl) 1 _ rfl) 2 _ rfl) Tryd.underlying32 rfl (by kernel_rfl)) rfl ?_
  exact ⟨rfl, ((HBW.out.setCell (Nat.le_refl _) _).setCell (Nat.le_refl _) _).setCell (Nat.le_refl _) _⟩

set_option maxRecDepth 100000 in
set_option maxHeartbeats 8000000 in
theorem first_bool1 (r : List UInt8) (s : ByteArray) (hs : s.data.toList = 1 :: 1 :: r) (hz : s.size ≤ 1099511627776) (w : World) :
    Calls Tryd.prog 20 #[.string s] w (FirstPost (1, 1, ⟨#[]⟩, 2) w) := by
  obtain ⟨h1, hsz, hc, hr⟩ := head_facts s _ _ hs
  have hge : 1 ≤ s.size := by omega
  have HSZ := Lib.hid hsz
  obtain ⟨X, hX⟩ : ∃ X, s.extract 1 s.size = X := ⟨_, rfl⟩
  have hXl := hr
  rw [hX] at hXl
  have hXs : X.size = s.size - 1 := by rw [← hX]; simp
  have HXL := Lib.hid hXl
  have HXS := Lib.hid hXs
  have HS := Lib.hid hs
  have hx0 : ∀ h : 0 < X.size, X[0]'h = 1 := (head_facts _ _ _ hXl).2.2.1
  have hx1 : 1 ≤ X.size := by rw [(head_facts _ _ _ hXl).2.1]; omega
  clear hs hr hsz hXl hXs
  go_enter Tryd.func20, Tryd.ntmps20
  go_wp2_with fail
  refine (Kp.value_Right.calls 1 1 ⟨#[]⟩ true _ (by rw [right_any, right_num (.inr (.inl ⟨rfl, .inr rfl⟩))])).mono ?_
  rintro e w2 ⟨rfl, hb2⟩
  obtain ⟨q1, q2, hbw⟩ := two_boxes hb2
  obtain ⟨⟨x0, x1, x2⟩, f0, f1, f2⟩ := blk_facts q1
  obtain ⟨⟨y0, y1, y2⟩, _, _, _⟩ := blk_facts q2
  have hs2 := hb2.size
  simp only [World.size_alloc] at hs2
  have HBW := Lib.hid hbw
  have Q1 := Lib.hid q1
  clear hb2 hbw q1 q2
  go_wp2_with fail
  refine bodyPost_ret (results_ct rfl _ _ w.heap.size 32 #[.int .i64 1, .int .i64 1, .string ⟨#[]⟩] (0, 0) _ rfl (blk_put (cs := #[.int .i64 1, .int .i64 1, .string ⟨#[]⟩]) (blk_put (cs := #[.int .i64 1, .int .i64 0, .string ⟨#[]⟩]) (blk_put (cs := #[.int .i64 0, .int .i64 0, .string ⟨#[]⟩]) Q1.out 0 _ rfl) 1 _ rfl) 2 _ rfl) Tryd.underlying32 rfl (by kernel_rfl)) rfl ?_
  exact ⟨rfl, ((HBW.out.setCell (Nat.le_refl _) _).setCell (Nat.le_refl _) _).setCell (Nat.le_refl _) _⟩

set_option maxRecDepth 100000 in
set_option maxHeartbeats 8000000 in
theorem first_bool2 (d : UInt8) (r : List UInt8) (hd0 : d ≠ 0) (hd1 : d ≠ 1) (s : ByteArray) (hs : s.data.toList = 1 :: d :: r) (hz : s.size ≤ 1099511627776) (w : World) :
    Calls Tryd.prog 20 #[.string s] w (FirstPost (0, 0, ⟨#[]⟩, -1) w) := by
  obtain ⟨h1, hsz, hc, hr⟩ := head_facts s _ _ hs
  have hge : 1 ≤ s.size := by omega
  have HSZ := Lib.hid hsz
  obtain ⟨X, hX⟩ : ∃ X, s.extract 1 s.size = X := ⟨_, rfl⟩
  have hXl := hr
  rw [hX] at hXl
  have hXs : X.size = s.size - 1 := by rw [← hX]; simp
  have HXL := Lib.hid hXl
  have HXS := Lib.hid hXs
  have HS := Lib.hid hs
  have hx0 : ∀ h : 0 < X.size, X[0]'h = d := (head_facts _ _ _ hXl).2.2.1
  have hx1 : 1 ≤ X.size := by rw [(head_facts _ _ _ hXl).2.1]; omega
  have d0 : (d.toNat : Int) ≠ 0 := fun e => hd0 (UInt8.toNat_inj.1 (by have e2 : (0 : UInt8).toNat = 0 := rfl; omega))
  have d1 : (d.toNat : Int) ≠ 1 := fun e => hd1 (UInt8.toNat_inj.1 (by have e2 : (1 : UInt8).toNat = 1 := rfl; omega))
  have HWR := Lib.hid (wrong_num (k := 1) (.inl ⟨rfl, d0, d1⟩))
  have db0 : 0 ≤ (d.toNat : Int) := by omega
  have db1 : (d.toNat : Int) ≤ 255 := by have := d.toNat_lt; omega
  clear hd0 hd1 d0 d1
  clear hs hr hsz hXl hXs
  go_enter Tryd.func20, Tryd.ntmps20
  go_wp2_with fail
  refine (Kp.value_Right.calls 1 (d.toNat : Int) ⟨#[]⟩ false _ (by rw [right_any, HWR.out])).mono ?_
  rintro e w2 ⟨rfl, hb2⟩
  obtain ⟨q1, q2, hbw⟩ := two_boxes hb2
  obtain ⟨⟨x0, x1, x2⟩, f0, f1, f2⟩ := blk_facts q1
  have hs2 := hb2.size
  simp only [World.size_alloc] at hs2
  have HBW := Lib.hid hbw
  have Q1 := Lib.hid q1
  clear hb2 hbw q1 q2
  go_wp2_with fail
  refine bodyPost_ret (results_ct rfl _ _ w.heap.size 32 #[.int .i64 0, .int .i64 0, .string ⟨#[]⟩] (0, 0) _ rfl (blk_put (cs := #[.int .i64 0, .int .i64 0, .string ⟨#[]⟩]) (blk_put (cs := #[.int .i64 0, .int .i64 0, .string ⟨#[]⟩]) (blk_put (cs := #[.int .i64 0, .int .i64 0, .string ⟨#[]⟩]) Q1.out 0 _ rfl) 1 _ rfl) 2 _ rfl) Tryd.underlying32 rfl (by kernel_rfl)) rfl ?_
  exact ⟨rfl, ((HBW.out.setCell (Nat.le_refl _) _).setCell (Nat.le_refl _) _).setCell (Nat.le_refl _) _⟩

set_option maxRecDepth 100000 in
set_option maxHeartbeats 8000000 in
theorem first_bool3 (s : ByteArray) (hs : s.data.toList = [1]) (hz : s.size ≤ 1099511627776) (w : World) :
    Calls Tryd.prog 20 #[.string s] w (FirstPost (0, 0, ⟨#[]⟩, -1) w) := by
  obtain ⟨h1, hsz, hc, hr⟩ := head_facts s _ _ hs
  have hge : 1 ≤ s.size := by omega
  have HSZ := Lib.hid hsz
  obtain ⟨X, hX⟩ : ∃ X, s.extract 1 s.size = X := ⟨_, rfl⟩
  have hXl := hr
  rw [hX] at hXl
  have hXs : X.size = s.size - 1 := by rw [← hX]; simp
  have HXL := Lib.hid hXl
  have HXS := Lib.hid hXs
  have HS := Lib.hid hs
  have hx1 : (X.size : Int) < 1 := by rw [hXs, hsz]; decide
  clear hs hr hsz hXl hXs
  go_enter Tryd.func20, Tryd.ntmps20
  go_wp2_with fail
  go_returns
  exact ⟨rfl, by go_grown⟩

set_option maxRecDepth 100000 in
set_option maxHeartbeats 8000000 in
theorem first_other (c : UInt8) (r : List UInt8) (hc5 : 5 ≤ c.toNat) (s : ByteArray) (hs : s.data.toList = c :: r) (hz : s.size ≤ 1099511627776) (w : World) :
    Calls Tryd.prog 20 #[.string s] w (FirstPost (0, 0, ⟨#[]⟩, -1) w) := by
  obtain ⟨h1, hsz, hc, hr⟩ := head_facts s _ _ hs
  have hge : 1 ≤ s.size := by omega
  have HSZ := Lib.hid hsz
  obtain ⟨X, hX⟩ : ∃ X, s.extract 1 s.size = X := ⟨_, rfl⟩
  have hXl := hr
  rw [hX] at hXl
  have hXs : X.size = s.size - 1 := by rw [← hX]; simp
  have HXL := Lib.hid hXl
  have HXS := Lib.hid hXs
  have HS := Lib.hid hs
  have cb0 : 5 ≤ (c.toNat : Int) := by omega
  have cb1 : (c.toNat : Int) ≤ 255 := by have := c.toNat_lt; omega
  have HWR := Lib.hid (wrong_num (n := 0) (.inr cb0))
  have k1 : ((c.toNat : Int) == 1) = false := beq_eq_false_iff_ne.2 (by omega)
  have k2 : ((c.toNat : Int) == 2) = false := beq_eq_false_iff_ne.2 (by omega)
  have k3 : ((c.toNat : Int) == 3) = false := beq_eq_false_iff_ne.2 (by omega)
  have k4 : ((c.toNat : Int) == 4) = false := beq_eq_false_iff_ne.2 (by omega)
  clear hc5
  clear hs hr hsz hXl hXs
  go_enter Tryd.func20, Tryd.ntmps20
  go_wp2_with fail
  refine (Kp.value_Right.calls (c.toNat : Int) 0 ⟨#[]⟩ false _ (by rw [right_any, HWR.out])).mono ?_
  rintro e w2 ⟨rfl, hb2⟩
  obtain ⟨q1, q2, hbw⟩ := two_boxes hb2
  obtain ⟨⟨x0, x1, x2⟩, f0, f1, f2⟩ := blk_facts q1
  have hs2 := hb2.size
  simp only [World.size_alloc] at hs2
  have HBW := Lib.hid hbw
  have Q1 := Lib.hid q1
  clear hb2 hbw q1 q2
  go_wp2_with fail
  refine bodyPost_ret (results_ct rfl _ _ w.heap.size 32 #[.int .i64 0, .int .i64 0, .string ⟨#[]⟩] (0, 0) _ rfl (blk_put (cs := #[.int .i64 0, .int .i64 0, .string ⟨#[]⟩]) (blk_put (cs := #[.int .i64 0, .int .i64 0, .string ⟨#[]⟩]) (blk_put (cs := #[.int .i64 0, .int .i64 0, .string ⟨#[]⟩]) Q1.out 0 _ rfl) 1 _ rfl) 2 _ rfl) Tryd.underlying32 rfl (by kernel_rfl)) rfl ?_
  exact ⟨rfl, ((HBW.out.setCell (Nat.le_refl _) _).setCell (Nat.le_refl _) _).setCell (Nat.le_refl _) _⟩

set_option maxRecDepth 100000 in
set_option maxHeartbeats 8000000 in
theorem first_int32_short (r : List UInt8) (hl : r.length < 4) (s : ByteArray) (hs : s.data.toList = 2 :: r) (hz : s.size ≤ 1099511627776) (w : World) :
    Calls Tryd.prog 20 #[.string s] w (FirstPost (0, 0, ⟨#[]⟩, -1) w) := by
  obtain ⟨h1, hsz, hc, hr⟩ := head_facts s _ _ hs
  have hge : 1 ≤ s.size := by omega
  have HSZ := Lib.hid hsz
  obtain ⟨X, hX⟩ : ∃ X, s.extract 1 s.size = X := ⟨_, rfl⟩
  have hXl := hr
  rw [hX] at hXl
  have hXs : X.size = s.size - 1 := by rw [← hX]; simp
  have HXL := Lib.hid hXl
  have HXS := Lib.hid hXs
  have HS := Lib.hid hs
  have hx1 : (X.size : Int) < 4 := by rw [hXs, hsz]; omega
  clear hs hr hsz hXl hXs
  go_enter Tryd.func20, Tryd.ntmps20
  go_wp2_with fail
  go_returns
  exact ⟨rfl, by go_grown⟩

set_option maxRecDepth 100000 in
set_option maxHeartbeats 8000000 in
theorem first_int64_short (r : List UInt8) (hl : r.length < 8) (s : ByteArray) (hs : s.data.toList = 3 :: r) (hz : s.size ≤ 1099511627776) (w : World) :
    Calls Tryd.prog 20 #[.string s] w (FirstPost (0, 0, ⟨#[]⟩, -1) w) := by
  obtain ⟨h1, hsz, hc, hr⟩ := head_facts s _ _ hs
  have hge : 1 ≤ s.size := by omega
  have HSZ := Lib.hid hsz
  obtain ⟨X, hX⟩ : ∃ X, s.extract 1 s.size = X := ⟨_, rfl⟩
  have hXl := hr
  rw [hX] at hXl
  have hXs : X.size = s.size - 1 := by rw [← hX]; simp
  have HXL := Lib.hid hXl
  have HXS := Lib.hid hXs
  have HS := Lib.hid hs
  have hx1 : (X.size : Int) < 8 := by rw [hXs, hsz]; omega
  clear hs hr hsz hXl hXs
  go_enter Tryd.func20, Tryd.ntmps20
  go_wp2_with fail
  go_returns
  exact ⟨rfl, by go_grown⟩

set_option maxRecDepth 100000 in
set_option maxHeartbeats 8000000 in
theorem first_int64 (r : List UInt8) (hl : 8 ≤ r.length) (s : ByteArray) (hs : s.data.toList = 3 :: r) (hz : s.size ≤ 1099511627776) (w : World) :
    Calls Tryd.prog 20 #[.string s] w (FirstPost (3, numL (r.take 8) - 9223372036854775808, ⟨#[]⟩, 9) w) := by
  obtain ⟨h1, hsz, hc, hr⟩ := head_facts s _ _ hs
  have hge : 1 ≤ s.size := by omega
  have HSZ := Lib.hid hsz
  obtain ⟨X, hX⟩ : ∃ X, s.extract 1 s.size = X := ⟨_, rfl⟩
  have hXl := hr
  rw [hX] at hXl
  have hXs : X.size = s.size - 1 := by rw [← hX]; simp
  have HXL := Lib.hid hXl
  have HXS := Lib.hid hXs
  have HS := Lib.hid hs
  have hx1 : 8 ≤ X.size := by rw [hXs, hsz]; simp only [Nat.add_sub_cancel]; exact hl
  obtain ⟨g1, g2, g3⟩ := get_take X r hXl hl
  have u1 := NumFn.unflip_f (numL (r.take 8)) ⟨g2, g3⟩
  have eu : NumFn.unflp (numL (r.take 8)) = numL (r.take 8) - 9223372036854775808 := rfl
  have HRT := Lib.hid (right_num (k := 3) (n := NumFn.unflp (numL (r.take 8))) (.inr (.inr (.inr rfl))))
  rw [← eu]
  generalize numL (r.take 8) = V at *
  generalize NumFn.unflp V = U at *
  have G1 := Lib.hid g1
  have U1 := Lib.hid u1
  clear g1 g2 g3 u1 eu
  clear hs hr hsz hXl hXs
  go_enter Tryd.func20, Tryd.ntmps20
  go_wp2_with fail
  refine (Kp.num_Get.calls (0 + 9) (X.extract 0 8) V 0 _ G1.out).mono ?_
  rintro e w1 ⟨rfl, ⟨nd, rfl⟩⟩
  go_wp2_with fail
  refine (Kp.num_Unflip.calls V U _ U1.out).mono ?_
  rintro e w1 ⟨rfl, ⟨nd2, rfl⟩⟩
  go_wp2_with fail
  refine (Kp.value_Right.calls 3 U ⟨#[]⟩ true _ (by rw [right_any, HRT.out])).mono ?_
  rintro e w2 ⟨rfl, hb2⟩
  have q1 : w2.heap[w.heap.size]? = some (.cells #[.int .i64 0, .int .i64 0, .string ⟨#[]⟩] 32 (0, 0)) := blk_below (by repeat (first | exact P1.out | exact P2.out | exact blk_new _ _ | exact blk_new2 _ _ _ | exact Q1.out | (refine blk_drewN ?_ _) | (refine blk_alloc ?_ _) | (refine blk_far ?_ (by simp) _))) hb2
  have q2 : w2.heap[w.heap.size + 1]? = some (.cells #[.int .i64 3, .int .i64 U, .string ⟨#[]⟩] 32 (0, 0)) := blk_below (by (refine blk_put (cs := #[.int .i64 3, .int .i64 0, .string ⟨#[]⟩]) ?_ 1 _ rfl); repeat (first | exact P1.out | exact P2.out | exact blk_new _ _ | exact blk_new2 _ _ _ | exact Q1.out | (refine blk_drewN ?_ _) | (refine blk_alloc ?_ _) | (refine blk_far ?_ (by simp) _))) hb2
  have hbw : Below w.heap.size w w2 := by
    refine Below.trans ?_ (hb2.mono ?_)
    · repeat (first | exact HBW.out | exact Below.refl _ _ | exact HB0.out | (refine pw_below_drewN ?_ _) | (refine Below.alloc ?_ (by simp) _) | (refine Below.setCell ?_ (by simp) _))
    · simp; omega
  obtain ⟨⟨x0, x1, x2⟩, f0, f1, f2⟩ := blk_facts q1
  obtain ⟨⟨y0, y1, y2⟩, _, _, _⟩ := blk_facts q2
  have HBW := Lib.hid hbw
  have Q1 := Lib.hid q1
  clear hb2 hbw q1 q2
  go_wp2_with fail
  refine bodyPost_ret (results_ct rfl _ _ w.heap.size 32 #[.int .i64 3, .int .i64 U, .string ⟨#[]⟩] (0, 0) _ rfl (blk_put (cs := #[.int .i64 3, .int .i64 U, .string ⟨#[]⟩]) (blk_put (cs := #[.int .i64 3, .int .i64 0, .string ⟨#[]⟩]) (blk_put (cs := #[.int .i64 0, .int .i64 0, .string ⟨#[]⟩]) Q1.out 0 _ rfl) 1 _ rfl) 2 _ rfl) Tryd.underlying32 rfl (by kernel_rfl)) rfl ?_
  exact ⟨rfl, ((HBW.out.setCell (Nat.le_refl _) _).setCell (Nat.le_refl _) _).setCell (Nat.le_refl _) _⟩

set_option maxRecDepth 100000 in
set_option maxHeartbeats 8000000 in
theorem first_text_none (r : List UInt8) (ht : textL r = none) (s : ByteArray) (hs : s.data.toList = 4 :: r) (hz : s.size ≤ 1099511627776) (w : World) :
    Calls Tryd.prog 20 #[.string s] w (FirstPost (0, 0, ⟨#[]⟩, -1) w) := by
  obtain ⟨h1, hsz, hc, hr⟩ := head_facts s _ _ hs
  have hge : 1 ≤ s.size := by omega
  have HSZ := Lib.hid hsz
  obtain ⟨X, hX⟩ : ∃ X, s.extract 1 s.size = X := ⟨_, rfl⟩
  have hXl := hr
  rw [hX] at hXl
  have hXs : X.size = s.size - 1 := by rw [← hX]; simp
  have HXL := Lib.hid hXl
  have HXS := Lib.hid hXs
  have HS := Lib.hid hs
  have hf : code_text.f X = some (⟨#[]⟩, -1) := by
    unfold code_text.f
    rw [if_pos (by rw [hXs]; omega), hXl, ht]
  have HF := Lib.hid hf
  clear hf ht
  clear hs hr hsz hXl hXs
  go_enter Tryd.func20, Tryd.ntmps20
  go_wp2_with fail
  refine (code_text.calls X ⟨#[]⟩ (-1) _ HF.out).mono ?_
  rintro e w2 ⟨rfl, hb2⟩
  obtain ⟨q1, q2, hbw⟩ := two_boxes hb2
  obtain ⟨⟨x0, x1, x2⟩, f0, f1, f2⟩ := blk_facts q1
  obtain ⟨⟨y0, y1, y2⟩, g0, g1, g2⟩ := blk_facts q2
  have hs2 := hb2.size
  simp only [World.size_alloc] at hs2
  have HBW := Lib.hid hbw
  have Q1 := Lib.hid q1
  clear hb2 hbw q1 q2
  go_wp2_with fail
  refine bodyPost_ret (results_ct rfl _ _ w.heap.size 32 #[.int .i64 0, .int .i64 0, .string ⟨#[]⟩] (0, 0) _ rfl (by (repeat (refine blk_put (cs := #[.int .i64 0, .int .i64 0, .string ⟨#[]⟩]) ?_ _ _ rfl)); repeat (first | exact P1.out | exact P2.out | exact blk_new _ _ | exact blk_new2 _ _ _ | exact Q1.out | (refine blk_drewN ?_ _) | (refine blk_alloc ?_ _) | (refine blk_far ?_ (by simp) _))) Tryd.underlying32 rfl (by kernel_rfl)) rfl ?_
  exact ⟨rfl, by repeat (first | exact HBW.out | exact Below.refl _ _ | exact HB0.out | (refine pw_below_drewN ?_ _) | (refine Below.alloc ?_ (by simp) _) | (refine Below.setCell ?_ (by simp) _))⟩

set_option maxRecDepth 100000 in
set_option maxHeartbeats 8000000 in
theorem first_text (r : List UInt8) (t : List UInt8) (n : Nat) (ht : textL r = some (t, n)) (hn : n ≤ r.length) (hl : t.length ≤ 200) (s : ByteArray) (hs : s.data.toList = 4 :: r) (hz : s.size ≤ 1099511627776) (w : World) :
    Calls Tryd.prog 20 #[.string s] w (FirstPost (4, 0, ⟨t.toArray⟩, 1 + (n : Int)) w) := by
  obtain ⟨h1, hsz, hc, hr⟩ := head_facts s _ _ hs
  have hge : 1 ≤ s.size := by omega
  have HSZ := Lib.hid hsz
  obtain ⟨X, hX⟩ : ∃ X, s.extract 1 s.size = X := ⟨_, rfl⟩
  have hXl := hr
  rw [hX] at hXl
  have hXs : X.size = s.size - 1 := by rw [← hX]; simp
  have HXL := Lib.hid hXl
  have HXS := Lib.hid hXs
  have HS := Lib.hid hs
  have hf : code_text.f X = some (⟨t.toArray⟩, (n : Int)) := by
    unfold code_text.f
    rw [if_pos (by rw [hXs]; omega), hXl, ht]
  have hnX : n ≤ X.size := by rw [hXs, hsz]; omega
  have hxz : X.size ≤ 1099511627776 := by rw [hXs]; omega
  have hrt : rightV 4 0 ⟨t.toArray⟩ = true := by
    have e : ((⟨t.toArray⟩ : ByteArray).size : Int) = t.length := by simp [ByteArray.size]
    unfold rightV
    rw [if_pos rfl, e]
    simp
    omega
  have HRT := Lib.hid hrt
  generalize (⟨t.toArray⟩ : ByteArray) = T at *
  have HF := Lib.hid hf
  clear hf ht hrt hl hn
  clear hs hr hsz hXl hXs
  go_enter Tryd.func20, Tryd.ntmps20
  go_wp2_with fail
  refine (code_text.calls X T (n : Int) _ HF.out).mono ?_
  rintro e w5 ⟨rfl, hb5⟩
  obtain ⟨p1, p2, hb0⟩ := two_boxes hb5
  obtain ⟨⟨x0, x1, x2⟩, f0, f1, f2⟩ := blk_facts p1
  obtain ⟨⟨y0, y1, y2⟩, g0, g1, g2⟩ := blk_facts p2
  have HB0 := Lib.hid hb0
  have P1 := Lib.hid p1
  have P2 := Lib.hid p2
  have hs5 := hb5.size
  simp only [World.size_alloc] at hs5
  clear hb5 hb0 p1 p2
  go_wp2_with fail
  refine (Kp.value_Right.calls 4 0 T true _ (by rw [right_any, HRT.out])).mono ?_
  rintro e w2 ⟨rfl, hb2⟩
  have q1 : w2.heap[w.heap.size]? = some (.cells #[.int .i64 0, .int .i64 0, .string ⟨#[]⟩] 32 (0, 0)) := blk_below (by repeat (first | exact P1.out | exact P2.out | exact blk_new _ _ | exact blk_new2 _ _ _ | exact Q1.out | (refine blk_drewN ?_ _) | (refine blk_alloc ?_ _) | (refine blk_far ?_ (by simp) _))) hb2
  have q2 : w2.heap[w.heap.size + 1]? = some (.cells #[.int .i64 4, .int .i64 0, .string T] 32 (0, 0)) := blk_below (by (refine blk_put (cs := #[.int .i64 4, .int .i64 0, .string ⟨#[]⟩]) ?_ 2 _ rfl); repeat (first | exact P1.out | exact P2.out | exact blk_new _ _ | exact blk_new2 _ _ _ | exact Q1.out | (refine blk_drewN ?_ _) | (refine blk_alloc ?_ _) | (refine blk_far ?_ (by simp) _))) hb2
  have hbw : Below w.heap.size w w2 := by
    refine Below.trans ?_ (hb2.mono ?_)
    · repeat (first | exact HBW.out | exact Below.refl _ _ | exact HB0.out | (refine pw_below_drewN ?_ _) | (refine Below.alloc ?_ (by simp) _) | (refine Below.setCell ?_ (by simp) _))
    · simp; omega
  obtain ⟨⟨x0, x1, x2⟩, f0, f1, f2⟩ := blk_facts q1
  obtain ⟨⟨y0, y1, y2⟩, _, _, _⟩ := blk_facts q2
  have HBW := Lib.hid hbw
  have Q1 := Lib.hid q1
  clear hb2 hbw q1 q2
  go_wp2_with fail
  refine bodyPost_ret (results_ct rfl _ _ w.heap.size 32 #[.int .i64 4, .int .i64 0, .string T] (0, 0) _ rfl (blk_put (cs := #[.int .i64 4, .int .i64 0, .string ⟨#[]⟩]) (blk_put (cs := #[.int .i64 4, .int .i64 0, .string ⟨#[]⟩]) (blk_put (cs := #[.int .i64 0, .int .i64 0, .string ⟨#[]⟩]) Q1.out 0 _ rfl) 1 _ rfl) 2 _ rfl) Tryd.underlying32 rfl (by kernel_rfl)) rfl ?_
  exact ⟨rfl, ((HBW.out.setCell (Nat.le_refl _) _).setCell (Nat.le_refl _) _).setCell (Nat.le_refl _) _⟩

set_option maxRecDepth 100000 in
set_option maxHeartbeats 8000000 in
theorem first_text_long (r : List UInt8) (t : List UInt8) (n : Nat) (ht : textL r = some (t, n)) (hn : n ≤ r.length) (hl : 200 < t.length) (s : ByteArray) (hs : s.data.toList = 4 :: r) (hz : s.size ≤ 1099511627776) (w : World) :
    Calls Tryd.prog 20 #[.string s] w (FirstPost (0, 0, ⟨#[]⟩, -1) w) := by
  obtain ⟨h1, hsz, hc, hr⟩ := head_facts s _ _ hs
  have hge : 1 ≤ s.size := by omega
  have HSZ := Lib.hid hsz
  obtain ⟨X, hX⟩ : ∃ X, s.extract 1 s.size = X := ⟨_, rfl⟩
  have hXl := hr
  rw [hX] at hXl
  have hXs : X.size = s.size - 1 := by rw [← hX]; simp
  have HXL := Lib.hid hXl
  have HXS := Lib.hid hXs
  have HS := Lib.hid hs
  have hf : code_text.f X = some (⟨t.toArray⟩, (n : Int)) := by
    unfold code_text.f
    rw [if_pos (by rw [hXs]; omega), hXl, ht]
  have hnX : n ≤ X.size := by rw [hXs, hsz]; omega
  have hxz : X.size ≤ 1099511627776 := by rw [hXs]; omega
  have hrt : rightV 4 0 ⟨t.toArray⟩ = false := by
    have e : ((⟨t.toArray⟩ : ByteArray).size : Int) = t.length := by simp [ByteArray.size]
    unfold rightV
    rw [if_pos rfl, e]
    simp
    omega
  have HRT := Lib.hid hrt
  generalize (⟨t.toArray⟩ : ByteArray) = T at *
  have HF := Lib.hid hf
  clear hf ht hrt hl hn
  clear hs hr hsz hXl hXs
  go_enter Tryd.func20, Tryd.ntmps20
  go_wp2_with fail
  refine (code_text.calls X T (n : Int) _ HF.out).mono ?_
  rintro e w5 ⟨rfl, hb5⟩
  obtain ⟨p1, p2, hb0⟩ := two_boxes hb5
  obtain ⟨⟨x0, x1, x2⟩, f0, f1, f2⟩ := blk_facts p1
  obtain ⟨⟨y0, y1, y2⟩, g0, g1, g2⟩ := blk_facts p2
  have HB0 := Lib.hid hb0
  have P1 := Lib.hid p1
  have P2 := Lib.hid p2
  have hs5 := hb5.size
  simp only [World.size_alloc] at hs5
  clear hb5 hb0 p1 p2
  go_wp2_with fail
  refine (Kp.value_Right.calls 4 0 T false _ (by rw [right_any, HRT.out])).mono ?_
  rintro e w2 ⟨rfl, hb2⟩
  have q1 : w2.heap[w.heap.size]? = some (.cells #[.int .i64 0, .int .i64 0, .string ⟨#[]⟩] 32 (0, 0)) := blk_below (by repeat (first | exact P1.out | exact P2.out | exact blk_new _ _ | exact blk_new2 _ _ _ | exact Q1.out | (refine blk_drewN ?_ _) | (refine blk_alloc ?_ _) | (refine blk_far ?_ (by simp) _))) hb2
  have hbw : Below w.heap.size w w2 := by
    refine Below.trans ?_ (hb2.mono ?_)
    · repeat (first | exact HBW.out | exact Below.refl _ _ | exact HB0.out | (refine pw_below_drewN ?_ _) | (refine Below.alloc ?_ (by simp) _) | (refine Below.setCell ?_ (by simp) _))
    · simp; omega
  obtain ⟨⟨x0, x1, x2⟩, f0, f1, f2⟩ := blk_facts q1
  have HBW := Lib.hid hbw
  have Q1 := Lib.hid q1
  clear hb2 hbw q1
  go_wp2_with fail
  refine bodyPost_ret (results_ct rfl _ _ w.heap.size 32 #[.int .i64 0, .int .i64 0, .string ⟨#[]⟩] (0, 0) _ rfl (by (repeat (refine blk_put (cs := #[.int .i64 0, .int .i64 0, .string ⟨#[]⟩]) ?_ _ _ rfl)); repeat (first | exact P1.out | exact P2.out | exact blk_new _ _ | exact blk_new2 _ _ _ | exact Q1.out | (refine blk_drewN ?_ _) | (refine blk_alloc ?_ _) | (refine blk_far ?_ (by simp) _))) Tryd.underlying32 rfl (by kernel_rfl)) rfl ?_
  exact ⟨rfl, by repeat (first | exact HBW.out | exact Below.refl _ _ | exact HB0.out | (refine pw_below_drewN ?_ _) | (refine Below.alloc ?_ (by simp) _) | (refine Below.setCell ?_ (by simp) _))⟩

set_option maxRecDepth 100000 in
set_option maxHeartbeats 8000000 in
theorem first_int32 (r : List UInt8) (hl : 4 ≤ r.length) (s : ByteArray) (hs : s.data.toList = 2 :: r) (hz : s.size ≤ 1099511627776) (w : World) :
    Calls Tryd.prog 20 #[.string s] w (FirstPost (2, numL (r.take 4) - 2147483648, ⟨#[]⟩, 5) w) := by
  obtain ⟨h1, hsz, hc, hr⟩ := head_facts s _ _ hs
  have hge : 1 ≤ s.size := by omega
  have HSZ := Lib.hid hsz
  obtain ⟨X, hX⟩ : ∃ X, s.extract 1 s.size = X := ⟨_, rfl⟩
  have hXl := hr
  rw [hX] at hXl
  have hXs : X.size = s.size - 1 := by rw [← hX]; simp
  have HXL := Lib.hid hXl
  have HXS := Lib.hid hXs
  have HS := Lib.hid hs
  have hx1 : 4 ≤ X.size := by rw [hXs, hsz]; simp only [Nat.add_sub_cancel]; exact hl
  have hS0 : num_Put.f 0 = some (strOfNums (putBytes 0)) := by unfold num_Put.f; rw [if_pos (by decide), if_pos (by decide)]
  have hS1 : ((strOfNums (putBytes 0)).extract 4 8).data.toList = [0, 0, 0, 0] := by rw [Lib.extract_data, strOfNums_data]; rfl
  have hS2 : (strOfNums (putBytes 0)).size = 8 := by rw [strOfNums_size]; rfl
  generalize strOfNums (putBytes 0) = S at *
  obtain ⟨g1, v2, v3⟩ := get_wide X S r hXl hl hS1
  have he4 : (S.extract 4 8).size = 4 := by simp only [ByteArray.size_extract, hS2]; omega
  have he5 : (X.extract 0 4).size = 4 := by simp only [ByteArray.size_extract]; omega
  have HRT := Lib.hid (right_num (k := 2) (n := numL (r.take 4) - 2147483648) (.inr (.inr (.inl ⟨rfl, by omega, by omega⟩))))
  generalize numL (r.take 4) = V at *
  have G1 := Lib.hid g1
  have HS0 := Lib.hid hS0
  clear g1 hS0 hS1
  clear hs hr hsz hXl hXs
  go_enter Tryd.func20, Tryd.ntmps20
  go_wp2_with fail
  go_region_with (first
    | (go_at_call 25; refine (num_Put.calls 0 S _ HS0.out).mono ?_; rintro e w5 ⟨rfl, hb5⟩; have p1 : w5.heap[w.heap.size]? = some (.cells #[.int .i64 0, .int .i64 0, .string ⟨#[]⟩] 32 (0, 0)) := blk_below (by repeat (first | exact P1.out | exact P2.out | exact blk_new _ _ | exact blk_new2 _ _ _ | exact Q1.out | (refine blk_drewN ?_ _) | (refine blk_drew ?_) | (refine blk_alloc ?_ _) | (refine blk_far ?_ (by simp) _))) hb5; have p2 : w5.heap[w.heap.size + 1]? = some (.cells #[.int .i64 2, .int .i64 0, .string ⟨#[]⟩] 32 (0, 0)) := blk_below (by repeat (first | exact P1.out | exact P2.out | exact blk_new _ _ | exact blk_new2 _ _ _ | exact Q1.out | (refine blk_drewN ?_ _) | (refine blk_drew ?_) | (refine blk_alloc ?_ _) | (refine blk_far ?_ (by simp) _))) hb5; have hb0 : Below w.heap.size w w5 := Below.trans (by repeat (first | exact HBW.out | exact Below.refl _ _ | exact HB0.out | (refine pw_below_drewN ?_ _) | (refine below_drew ?_) | (refine Below.alloc ?_ (by simp) _) | (refine Below.setCell ?_ (by simp) _))) (hb5.mono (by simp; omega)); have P1 := Lib.hid p1; have P2 := Lib.hid p2; have HB0 := Lib.hid hb0; obtain ⟨⟨x0, x1, x2⟩, f0, f1, f2⟩ := blk_facts p1; obtain ⟨⟨y0, y1, y2⟩, g0, g1, g2⟩ := blk_facts p2; have hs5 : w.heap.size + 1 < w5.heap.size := blk_lt p2; clear hb5 hb0 p1 p2)
    | (go_at_call 30; refine (Kp.num_Get.calls (0 + 9) (S.extract 4 8 ++ X.extract 0 4) V 0 _ G1.out).mono ?_; rintro e w6 ⟨rfl, ⟨nd, rfl⟩⟩))
  go_wp2_with fail
  rw [back32 V v2 v3]
  refine (Kp.value_Right.calls 2 (V - 2147483648) ⟨#[]⟩ true _ (by rw [right_any, HRT.out])).mono ?_
  rintro e w2 ⟨rfl, hb2⟩
  have q1 : w2.heap[w.heap.size]? = some (.cells #[.int .i64 0, .int .i64 0, .string ⟨#[]⟩] 32 (0, 0)) := blk_below (by repeat (first | exact P1.out | exact P2.out | exact blk_new _ _ | exact blk_new2 _ _ _ | exact Q1.out | (refine blk_drewN ?_ _) | (refine blk_alloc ?_ _) | (refine blk_far ?_ (by simp) _))) hb2
  have q2 : w2.heap[w.heap.size + 1]? = some (.cells #[.int .i64 2, .int .i64 (V - 2147483648), .string ⟨#[]⟩] 32 (0, 0)) := blk_below (by (refine blk_put (cs := #[.int .i64 2, .int .i64 0, .string ⟨#[]⟩]) ?_ 1 _ rfl); repeat (first | exact P1.out | exact P2.out | exact blk_new _ _ | exact blk_new2 _ _ _ | exact Q1.out | (refine blk_drewN ?_ _) | (refine blk_alloc ?_ _) | (refine blk_far ?_ (by simp) _))) hb2
  have hbw : Below w.heap.size w w2 := by
    refine Below.trans ?_ (hb2.mono ?_)
    · repeat (first | exact HBW.out | exact Below.refl _ _ | exact HB0.out | (refine pw_below_drewN ?_ _) | (refine Below.alloc ?_ (by simp) _) | (refine Below.setCell ?_ (by simp) _))
    · simp; omega
  obtain ⟨⟨x0, x1, x2⟩, f0, f1, f2⟩ := blk_facts q1
  obtain ⟨⟨y0, y1, y2⟩, _, _, _⟩ := blk_facts q2
  have HBW := Lib.hid hbw
  have Q1 := Lib.hid q1
  clear hb2 hbw q1 q2
  go_wp2_with fail
  refine bodyPost_ret (results_ct rfl _ _ w.heap.size 32 #[.int .i64 2, .int .i64 (V - 2147483648), .string ⟨#[]⟩] (0, 0) _ rfl (blk_put (cs := #[.int .i64 2, .int .i64 (V - 2147483648), .string ⟨#[]⟩]) (blk_put (cs := #[.int .i64 2, .int .i64 0, .string ⟨#[]⟩]) (blk_put (cs := #[.int .i64 0, .int .i64 0, .string ⟨#[]⟩]) Q1.out 0 _ rfl) 1 _ rfl) 2 _ rfl) Tryd.underlying32 rfl (by kernel_rfl)) rfl ?_
  exact ⟨rfl, ((HBW.out.setCell (Nat.le_refl _) _).setCell (Nat.le_refl _) _).setCell (Nat.le_refl _) _⟩

theorem textL_le (l : List UInt8) : ∀ t n, textL l = some (t, n) → n ≤ l.length ∧ t.length ≤ n := by
  induction l using textL.induct with
  | case1 => intro t n h; simp [textL] at h
  | case2 => intro t n h; simp [textL] at h
  | case3 l => intro t n h; simp [textL] at h; obtain ⟨rfl, rfl⟩ := h; simp
  | case4 l _ ih =>
    intro t n h
    simp [textL] at h
    obtain ⟨a, b, h1, rfl, rfl⟩ := h
    have := ih a b h1
    simp; omega
  | case5 d l h0 h1 => intro t n h; simp [textL, h0, h1] at h
  | case6 c d l hc ih =>
    intro t n h
    simp only [textL, hc, if_false, Option.map_eq_some_iff, Prod.exists, Prod.mk.injEq] at h
    obtain ⟨a, b, h1, rfl, rfl⟩ := h
    have := ih a b h1
    simp at this ⊢; omega

theorem code_first.calls (a0 : ByteArray) (r1 : Int) (r2 : Int) (r3 : ByteArray) (r4 : Int) (w : World) (h : code_first.f a0 = some (r1, r2, r3, r4)) :
    Calls Tryd.prog 20 #[.string a0] w fun e w' => e = .returned (.tuple #[.agg #[.int .i64 r1, .int .i64 r2, .string r3], .int .i64 r4]) ∧ Below w.heap.size w w' := by
  unfold code_first.f at h
  by_cases hz : a0.size ≤ 1099511627776
  · rw [if_pos hz] at h
    have h := Option.some.inj h
    have key : Calls Tryd.prog 20 #[.string a0] w (FirstPost (firstR (firstL a0.data.toList)) w) := by
      cases hs : a0.data.toList with
      | nil => exact first_empty a0 hs w
      | cons c r =>
        by_cases c0 : c = 0
        · subst c0; exact first_null r a0 hs hz w
        by_cases c1 : c = 1
        · subst c1
          cases r with
          | nil => exact first_bool3 a0 hs hz w
          | cons d r =>
            by_cases d0 : d = 0
            · subst d0; exact first_bool0 r a0 hs hz w
            by_cases d1 : d = 1
            · subst d1; exact first_bool1 r a0 hs hz w
            have e : firstR (firstL (1 :: d :: r)) = (0, 0, ⟨#[]⟩, -1) := by simp [firstL, firstR, d0, d1]
            rw [e]; exact first_bool2 d r d0 d1 a0 hs hz w
        by_cases c2 : c = 2
        · subst c2
          by_cases hl : 4 ≤ r.length
          · have e : firstR (firstL (2 :: r)) = (2, numL (r.take 4) - 2147483648, ⟨#[]⟩, 5) := by simp [firstL, firstR, hl]
            rw [e]; exact first_int32 r hl a0 hs hz w
          · have e : firstR (firstL (2 :: r)) = (0, 0, ⟨#[]⟩, -1) := by simp [firstL, firstR, hl]
            rw [e]; exact first_int32_short r (by omega) a0 hs hz w
        by_cases c3 : c = 3
        · subst c3
          by_cases hl : 8 ≤ r.length
          · have e : firstR (firstL (3 :: r)) = (3, numL (r.take 8) - 9223372036854775808, ⟨#[]⟩, 9) := by simp [firstL, firstR, hl]
            rw [e]; exact first_int64 r hl a0 hs hz w
          · have e : firstR (firstL (3 :: r)) = (0, 0, ⟨#[]⟩, -1) := by simp [firstL, firstR, hl]
            rw [e]; exact first_int64_short r (by omega) a0 hs hz w
        by_cases c4 : c = 4
        · subst c4
          cases ht : textL r with
          | none =>
            have e : firstR (firstL (4 :: r)) = (0, 0, ⟨#[]⟩, -1) := by simp [firstL, firstR, ht]
            rw [e]; exact first_text_none r ht a0 hs hz w
          | some x =>
            obtain ⟨t, n⟩ := x
            have hn := (textL_le r t n ht).1
            by_cases hl : t.length ≤ 200
            · have e : firstR (firstL (4 :: r)) = (4, 0, ⟨t.toArray⟩, 1 + (n : Int)) := by simp [firstL, firstR, ht, hl]; omega
              rw [e]; exact first_text r t n ht hn hl a0 hs hz w
            · have e : firstR (firstL (4 :: r)) = (0, 0, ⟨#[]⟩, -1) := by simp [firstL, firstR, ht, hl]
              rw [e]; exact first_text_long r t n ht hn (by omega) a0 hs hz w
        have e : firstR (firstL (c :: r)) = (0, 0, ⟨#[]⟩, -1) := by simp [firstL, firstR, c0, c1, c2, c3, c4]
        rw [e]
        refine first_other c r ?_ a0 hs hz w
        have k : ∀ j : UInt8, c ≠ j → c.toNat ≠ j.toNat := fun j hj e => hj (UInt8.toNat_inj.1 e)
        have k0 : c.toNat ≠ 0 := k 0 c0
        have k1 : c.toNat ≠ 1 := k 1 c1
        have k2 : c.toNat ≠ 2 := k 2 c2
        have k3 : c.toNat ≠ 3 := k 3 c3
        have k4 : c.toNat ≠ 4 := k 4 c4
        omega
    rw [h] at key
    exact key
  · rw [if_neg hz] at h; cases h
end Go.Proofs.YtknkaaleafiifaaDoor
