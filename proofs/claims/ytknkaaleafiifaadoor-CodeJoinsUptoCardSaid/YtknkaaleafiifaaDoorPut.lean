/- The bytes of a number: what num.Put comes to, proved by hand (the printer takes no arrays); no condition beyond the number's kind. -/
import Derived.Test.YtknkaaleafiifaaDoorProg
import Derived.WalkKit
import Derived.Handy
import Derived.WalkLawsBesides
import Derived.WalkSpells
import Derived.Laws.BytesArg
import Derived.Lib.Hide
namespace Go.Proofs.YtknkaaleafiifaaDoor
open Go.RowKit

/-- The eight bytes of a number, the highest first. -/
def putBytes (a : Int) : List Int := [a / 72057594037927936, a / 281474976710656 % 256, a / 1099511627776 % 256, a / 4294967296 % 256, a / 16777216 % 256, a / 65536 % 256, a / 256 % 256, a % 256]
def num_Put.f (a0 : Int) : Option (ByteArray) := if 0 ≤ a0 then (if a0 ≤ 18446744073709551615 then some (strOfNums (putBytes a0)) else none) else none

set_option maxRecDepth 100000 in
set_option maxHeartbeats 4000000 in
theorem num_Put.calls (a0 : Int) (r : ByteArray) (w : World) (h : num_Put.f a0 = some r) :
    Calls Tryd.prog 25 #[.int .u64 a0] w fun e w' => e = .returned (.string r) ∧ Below w.heap.size w w' := by
  have h0 : 0 ≤ a0 := by
    rcases Int.lt_or_le a0 0 with h1 | h1
    · simp [num_Put.f, show ¬ (0 ≤ a0) by omega] at h
    · exact h1
  have h1 : a0 ≤ 18446744073709551615 := by
    rcases Int.lt_or_le 18446744073709551615 a0 with h1 | h1
    · simp [num_Put.f, show ¬ (a0 ≤ 18446744073709551615) by omega] at h
    · exact h1
  have hr : r = strOfNums (putBytes a0) := by
    simp [num_Put.f, h0, h1] at h
    exact h.symm
  have HR := Lib.hid hr
  clear hr h
  go_enter Tryd.func25, Tryd.ntmps25
  go_wp2_with fail
  go_rounds 9
  rw [run_convert_bytes_arg _ _ _ Tryd.underlying41 Tryd.underlying5 _ 0 8 8 (putBytes a0) rfl ?hc _ Tryd.underlying9]
  case hc =>
    intro i hi
    simp only [putBytes]
    match i, hi with
    | 0, _ => simp [go_sem]
    | 1, _ => simp [go_sem]
    | 2, _ => simp [go_sem]
    | 3, _ => simp [go_sem]
    | 4, _ => simp [go_sem]
    | 5, _ => simp [go_sem]
    | 6, _ => simp [go_sem]
    | 7, _ => simp [go_sem]
  go_wp2
  go_ret
  exact ⟨by rw [HR.out]; rfl, (Below.refl _ _).alloc (Nat.le_refl _) _⟩
end Go.Proofs.YtknkaaleafiifaaDoor
