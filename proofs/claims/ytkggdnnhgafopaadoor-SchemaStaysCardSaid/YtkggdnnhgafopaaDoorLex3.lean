/- What lex reads of a text, part three: how many bytes come that are wanted; for every text. -/
import Derived.Test.YtkggdnnhgafopaaDoorLex2
import Derived.Test.YtkggdnnhgafopaaDoorK
set_option linter.unusedVariables false
namespace Go.Proofs.YtkggdnnhgafopaaDoor
open Go.RowKit Go.Lib Go.Shelf Go.Proofs.YtkggdnnhgafopaaDoorW.PrintWords
/-- Is a rune a letter? Part of a name? -/
def letR (x : Int) : Bool := decide (97 ≤ x) && decide (x ≤ 122) || decide (65 ≤ x) && decide (x ≤ 90)
def nameR (x : Int) : Bool := letR x || x == 95 || figR x
theorem letter_f (x : Int) : Kp.lex_letter.f x = some (letR x) := by
  unfold Kp.lex_letter.f letR
  by_cases h1 : 97 ≤ x <;> by_cases h2 : x ≤ 122 <;> by_cases h3 : 65 ≤ x <;> by_cases h4 : x ≤ 90 <;> simp [h1, h2, h3, h4]
theorem letter_calls (x : Int) (w : World) : Calls Tryd.prog 67 #[.int .i32 x] w fun e w' => e = .returned (.bool (letR x)) ∧ Drawn0 w w' :=
  Kp.lex_letter.calls x (letR x) w (letter_f x)
set_option maxRecDepth 100000 in
set_option maxHeartbeats 4000000 in
theorem wants_name (x : Int) (h0 : 0 ≤ x) (h1 : x ≤ 1114111) (w : World) :
    Calls Tryd.prog 69 #[.int .i32 x] w fun e w' => e = .returned (.bool (nameR x)) ∧ Below w.heap.size w w' := by
  have hl := letter_calls x
  have hf := containsRune_figs x h0 h1
  have BL : ∀ (n : Nat), Below w.heap.size w (w.drewN n) := fun n => below_drews w n
  cases hx : letR x with
  | true =>
    have hn : nameR x = true := by simp [nameR, hx]
    rw [hx] at hl
    rw [hn]
    clear hn hx hf
    go_enter Tryd.func69, Tryd.ntmps69
    go_wp2_with (go_at_call 67; refine (hl _).mono ?_; rintro e w' ⟨rfl, n, rfl⟩)
    go_ret
    exact ⟨rfl, BL _⟩
  | false =>
    rw [hx] at hl
    cases h95 : (x == 95) with
    | true =>
      have hn : nameR x = true := by simp [nameR, hx, h95]
      rw [hn]
      clear hn hx hf
      go_enter Tryd.func69, Tryd.ntmps69
      go_wp2_with (go_at_call 67; refine (hl _).mono ?_; rintro e w' ⟨rfl, n, rfl⟩)
      go_ret
      exact ⟨rfl, BL _⟩
    | false =>
      have hn : nameR x = figR x := by simp [nameR, hx, h95]
      rw [hn]
      clear hn hx
      go_enter Tryd.func69, Tryd.ntmps69
      go_wp2_with (first
        | (go_at_call 67; refine (hl _).mono ?_; rintro e w' ⟨rfl, n, rfl⟩)
        | (go_at_call 70; refine (hf _).mono ?_; rintro e w' ⟨rfl, hb⟩))

      go_ret
      exact ⟨rfl, (BL _).trans (hb.mono (by simp))⟩
set_option maxRecDepth 100000 in
set_option maxHeartbeats 4000000 in
theorem wants_fig (x : Int) (h0 : 0 ≤ x) (h1 : x ≤ 1114111) (w : World) :
    Calls Tryd.prog 71 #[.int .i32 x] w fun e w' => e = .returned (.bool (figR x)) ∧ Below w.heap.size w w' := by
  have hf := containsRune_figs x h0 h1
  go_enter Tryd.func71, Tryd.ntmps71
  go_wp2_with (go_at_call 70; refine (hf _).mono ?_; rintro e w' ⟨rfl, hb⟩)
  go_ret
  exact ⟨rfl, hb⟩
theorem wants_name' (w : World) : PredGrows Tryd.prog 69 #[] (fun n => nameR n) w := fun W x hx _ => wants_name x (by omega) (by omega) W
theorem wants_fig' (w : World) : PredGrows Tryd.prog 71 #[] (fun n => figR n) w := fun W x hx _ => wants_fig x (by omega) (by omega) W
theorem grows_later {P : Program} {g : Nat} {lb : Array Value} {p : Nat → Bool} {w W : World} (h : PredGrows P g lb p w) (hb : Below w.heap.size w W) : PredGrows P g lb p W :=
  fun W' x hx hb' => h W' x hx (hb.trans (hb'.mono hb.size))
set_option maxRecDepth 100000 in
set_option maxHeartbeats 4000000 in
/-- The negation that length hands on: what is not wanted. -/
theorem unwanted (g : Nat) (eg : ∀ args w, (callFunc g args).run Tryd.prog w = .ok (.enter g args) w) (p : Nat → Bool) (B : Nat) (w : World) (hB : B < w.heap.size) (hc : w.cell? ⟨B, 0, none⟩ = some (.func (.func g) #[] #[])) (hp : PredGrows Tryd.prog g #[] p w) :
    PredGrows Tryd.prog 87 #[.pointer (some ⟨B, 0, none⟩)] (fun n => !p n) w := fun W x hx hb => by
  have hc' : W.cell? ⟨B, 0, none⟩ = some (.func (.func g) #[] #[]) := (hb.cell (p := ⟨B, 0, none⟩) hB).trans hc
  have hg := hp W x hx hb
  show Calls Tryd.prog 87 #[encR x, .pointer (some ⟨B, 0, none⟩)] W _
  generalize hr : encR x = v at *
  go_enter Tryd.func87, Tryd.ntmps87
  go_wp2_with (go_at_fn g; refine hg.mono ?_; rintro e w' ⟨rfl, hb'⟩)
  go_ret
  exact ⟨rfl, hb'⟩
/-- How many bytes come that are wanted. -/
def lenB (p : Nat → Bool) (s : ByteArray) : Int := if 0 ≤ Lib.idxFunc (fun n => !p n) true s then Lib.idxFunc (fun n => !p n) true s else (s.size : Int)
set_option maxRecDepth 100000 in
set_option maxHeartbeats 4000000 in
theorem length_calls (g : Nat) (eg : ∀ args w, (callFunc g args).run Tryd.prog w = .ok (.enter g args) w) (p : Nat → Bool) (s : ByteArray) (w : World) (hp : PredGrows Tryd.prog g #[] p w) :
    Calls Tryd.prog 68 #[.string s, .func (.func g) #[] #[]] w fun e w' => e = .returned (.int .i64 (lenB p s)) ∧ Below w.heap.size w w' := by
  have e87 : ∀ args w, (callFunc 87 args).run Tryd.prog w = .ok (.enter 87 args) w := enters_of Tryd.func87 (by kernel_rfl) rfl
  have hI := fun (W : World) (hb : Below w.heap.size w W) (hB : w.heap.size < W.heap.size) (hc : W.cell? ⟨w.heap.size, 0, none⟩ = some (.func (.func g) #[] #[])) =>
    Tryd.strings_IndexFunc_grows 87 #[.pointer (some ⟨w.heap.size, 0, none⟩)] e87 (fun n => !p n) s W (unwanted g eg p w.heap.size W hB hc (grows_later hp hb))
  unfold lenB
  generalize Lib.idxFunc (fun n => !p n) true s = I at *
  by_cases h : 0 ≤ I
  · rw [if_pos h]
    have hd : decide (0 ≤ I) = true := decide_eq_true h
    go_enter Tryd.func68, Tryd.ntmps68
    go_wp2_with (go_at_call 86; refine (hI _ ?hb ?hB ?hc).mono ?_; (case hb => exact (Below.refl _ w).alloc (Nat.le_refl _) _); (case hB => simp); (case hc => simp); rintro e w' ⟨rfl, hb⟩)
    go_ret
    exact ⟨rfl, ((Below.refl _ w).alloc (Nat.le_refl _) _).trans (hb.mono (by simp))⟩
  · rw [if_neg h]
    have hd : decide (0 ≤ I) = false := decide_eq_false h
    go_enter Tryd.func68, Tryd.ntmps68
    go_wp2_with (go_at_call 86; refine (hI _ ?hb ?hB ?hc).mono ?_; (case hb => exact (Below.refl _ w).alloc (Nat.le_refl _) _); (case hB => simp); (case hc => simp); rintro e w' ⟨rfl, hb⟩)
    go_ret
    exact ⟨rfl, ((Below.refl _ w).alloc (Nat.le_refl _) _).trans (hb.mono (by simp))⟩
end Go.Proofs.YtkggdnnhgafopaaDoor
