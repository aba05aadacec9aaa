/- A schema's columns: whether one is there of which something holds; the closures of Add and of Right. -/
import Derived.Test.YtkggdnnhgafopaaDoorJ
import Derived.RegionTactic
import Derived.Deep.QuietTactic
import Derived.BigQuiet
set_option linter.unusedVariables false
set_option linter.unusedSimpArgs false
namespace Go.Proofs.YtkggdnnhgafopaaDoor
open Go.RowKit Go.Lib Go.Shelf Go.Proofs.YtkggdnnhgafopaaDoorW.PrintWords Go.Proofs.YtkggdnnhgafopaaDoorW.PrintLast Go.Proofs.YtkggdnnhgafopaaDoorW.PrintMore Go.Proofs.YtkggdnnhgafopaaDoor.Kp
set_option maxRecDepth 100000 in
set_option maxHeartbeats 4000000 in
theorem has_none (A : Option Addr) (c : Nat) (fv : Value) (w : World) :
    Calls Tryd.prog 31 #[.slice A 0 c, fv] w fun e w' => e = .returned (.bool false) ∧ Below w.heap.size w w' := by
  have hI := index_none A c fv
  go_enter Tryd.func31, Tryd.ntmps31
  go_wp2_with (go_at_call 41; refine (hI _).mono ?_; rintro e w' ⟨rfl, hb⟩)
  go_ret
  exact ⟨rfl, hb⟩
theorem any_idx (p : S25 → Bool) (l : List S25) : decide (0 ≤ idxCol p l) = l.any p := Lib.idxBy_nonneg_iff (fun _ y => p y) l default
theorem has_cols (g : Nat) (lb : Array Value) (eg : ∀ args w, (callFunc g args).run Tryd.prog w = .ok (.enter g args) w) (p : S25 → Bool) (A : Option Addr) (c n : Nat) (l : List S25) (w : World) (hC : Kd.C k25 w A l.length l) (hn : n ≤ l.length)
    (hp : PredBelow Tryd.prog g lb (fun x => .agg (encCol x).toArray) p w) (hbig : l.length ≤ 9223372036854775807) :
    Calls Tryd.prog 31 #[.slice A n c, .func (.func g) #[] lb] w fun e w' => e = .returned (.bool ((l.take n).any p)) ∧ Below w.heap.size w w' := by
  by_cases hl : 0 < n
  · obtain ⟨b, off, rfl, hb, hc⟩ := cols_at hC (by omega)
    have h := AnyQ.slices_ContainsFunc Tryd.slHas 3 Tryd.isAgg25 Tryd.sizeOf25 encCol (fun _ => rfl) p g lb eg b off n c l w hp hn (by omega) hb hc
    exact h
  · have hn0 : n = 0 := by omega
    subst hn0
    exact has_none A c _ w
set_option maxRecDepth 100000 in
set_option maxHeartbeats 4000000 in
/-- The closure of Add: the same ID. -/
theorem same_id (k : Int) (B : Nat) (w : World) (hB : B < w.heap.size) (hc : w.cell? ⟨B, 0, none⟩ = some (.int .i64 k)) :
    PredBelow Tryd.prog 32 #[.pointer (some ⟨B, 0, none⟩)] (fun x => .agg (encCol x).toArray) (fun x => x.f0 == k) w := fun W x hb => by
  have hc' : W.cell? ⟨B, 0, none⟩ = some (.int .i64 k) := (hb.cell (p := ⟨B, 0, none⟩) hB).trans hc
  have hBW : B < W.heap.size := Nat.lt_of_lt_of_le hB hb.size
  have hne : B ≠ W.heap.size := by omega
  show Calls Tryd.prog 32 #[.agg #[.int .i64 x.f0, .string x.f1, .int .i64 x.f2], .pointer (some ⟨B, 0, none⟩)] W _
  go_enter Tryd.func32, Tryd.ntmps32
  go_wp2
  all_goals (go_ret; exact ⟨by simp_all, hb.alloc hb.size _⟩)
theorem cell_in {w W : World} {b k : Nat} {v : Value} (hb : Below w.heap.size w W) (hB : b < w.heap.size) (hc : w.cell? ⟨b, k, none⟩ = some v) : W.cell? ⟨b, k, none⟩ = some v :=
  (hb.cell (p := ⟨b, k, none⟩) hB).trans hc
set_option maxRecDepth 100000 in
set_option maxHeartbeats 4000000 in
/-- The closure of Right: the same ID or the same name as the i-th one's. -/
theorem same_as (l : List S25) (b off n c i : Nat) (hi : i < n) (hil : i < l.length) (hib : i < 4611686018427387904) (B1 B2 : Nat) (w : World) (hb0 : b < w.heap.size) (hB1 : B1 < w.heap.size) (hB2 : B2 < w.heap.size)
    (h1 : w.cell? ⟨B1, 0, none⟩ = some (.slice (some ⟨b, off, none⟩) n c)) (h2 : w.cell? ⟨B2, 0, none⟩ = some (.int .i64 i))
    (hc : ∀ j, j < l.length → ∀ i v, (encCol l[j]!)[i]? = some v → w.cell? ⟨b, off + j * 3 + i, none⟩ = some v) :
    PredBelow Tryd.prog 40 #[.pointer (some ⟨B1, 0, none⟩), .pointer (some ⟨B2, 0, none⟩)] (fun x => .agg (encCol x).toArray) (fun x => x.f0 == l[i]!.f0 || x.f1.toList == l[i]!.f1.toList) w := fun W x hb => by
  have q1 := cell_in hb hB1 h1
  have q2 := cell_in hb hB2 h2
  have q3 : W.cell? ⟨b, off + i * 3, none⟩ = some (.int .i64 l[i]!.f0) := cell_in hb hb0 (hc i hil 0 _ rfl)
  have q4 : W.cell? ⟨b, off + i * 3 + 1, none⟩ = some (.string l[i]!.f1) := cell_in hb hb0 (hc i hil 1 _ rfl)
  clear hc
  have hne1 : B1 ≠ W.heap.size := by have := hb.size; omega
  have hne2 : B2 ≠ W.heap.size := by have := hb.size; omega
  have hne3 : b ≠ W.heap.size := by have := hb.size; omega
  have g0 : decide ((0 : Int) ≤ (i : Int)) = true := decide_eq_true (by omega)
  have g1 : decide ((i : Int) < (n : Int)) = true := decide_eq_true (by omega)
  have g2 : (0 : Int) ≤ (i : Int) := by omega
  have g3 : (i : Int) < (n : Int) := by omega
  generalize l[i]! = y at *
  have a1 := Lib.cell?_alloc_some (o := .cells #[.int .i64 x.f0, .string x.f1, .int .i64 x.f2] 25) q1
  have a2 := Lib.cell?_alloc_some (o := .cells #[.int .i64 x.f0, .string x.f1, .int .i64 x.f2] 25) q2
  have a3 := Lib.cell?_alloc_some (o := .cells #[.int .i64 x.f0, .string x.f1, .int .i64 x.f2] 25) q3
  have a4 := Lib.cell?_alloc_some (o := .cells #[.int .i64 x.f0, .string x.f1, .int .i64 x.f2] 25) q4
  show Calls Tryd.prog 40 #[.agg #[.int .i64 x.f0, .string x.f1, .int .i64 x.f2], .pointer (some ⟨B1, 0, none⟩), .pointer (some ⟨B2, 0, none⟩)] W _
  cases hid : (x.f0 == y.f0) with
  | true =>
    go_enter Tryd.func40, Tryd.ntmps40
    go_wp2
    go_quiet (fail)
    go_wp2
    all_goals go_ret
    all_goals exact ⟨by simp_all, below_two (hb.alloc hb.size _) (by simp) (below_drews _ _)⟩
  | false =>
    go_enter Tryd.func40, Tryd.ntmps40
    go_wp2
    go_quiet (fail)
    go_wp2
    all_goals go_ret
    all_goals exact ⟨by simp_all, below_two (hb.alloc hb.size _) (by simp) (below_drews _ _)⟩
end Go.Proofs.YtkggdnnhgafopaaDoor
