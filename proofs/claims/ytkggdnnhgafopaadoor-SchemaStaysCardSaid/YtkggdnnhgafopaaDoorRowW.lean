/- What every row of the schema seat asks: a world that holds the two laid tables. -/
import Derived.Test.YtkggdnnhgafopaaDoorCards
import Derived.Test.YtkggdnnhgafopaaDoorTie
import Derived.Test.YtkggdnnhgafopaaDoorOpenC
import Derived.WalkKit
import Derived.ProofKit
import Derived.OpenShut
import Derived.Carry
import Derived.Deep.DeepHandedRow
import Derived.Lib.LaidTab
set_option linter.unusedVariables false
namespace Go.Proofs.YtkggdnnhgafopaaDoor
open Go.ChangeShapes Go.WideShapes Go.ChangeAt Go.RowKit
def firstCells : Array Value := (Go.Pinned.utf8FirstZ.map fun (n : Nat) => Value.int .u8 (n : Int)).toArray
def acceptCells : Array Value := ([128, 191, 160, 191, 128, 159, 144, 191, 128, 143, 0, 0, 0, 0, 0, 0, 0, 0, 0, 0, 0, 0, 0, 0, 0, 0, 0, 0, 0, 0, 0, 0].map fun (n : Int) => Value.int .u8 n).toArray
def tabCells (c : Array Value) : Obj → Obj := fun
  | .cells _ t frozen => .cells c t frozen
  | o => o
/-- A world for the witness: the settled one, the two tables holding what is laid. -/
noncomputable def laidWorld (os : Os) : World :=
  { World.holding Tryd.prog os ⟨#[], #[], []⟩ with heap := ((World.holding Tryd.prog os ⟨#[], #[], []⟩).heap.modify 1 (tabCells firstCells)).modify 2 (tabCells acceptCells) }
end Go.Proofs.YtkggdnnhgafopaaDoor
