/- The program's functions of layer 2, walked. -/
import Derived.Test.YtnnfkdjmpbgkaaaDoorPure
import Derived.Test.YtnnfkdjmpbgkaaaDoorClassP
import Derived.Test.YtnnfkdjmpbgkaaaDoorRunes
namespace Go.Proofs.YtnnfkdjmpbgkaaaDoor
open Go.RowKit

def letterCells (k : IntKind) : Array Value := (letterRanges.flatMap fun p => [Value.int k p.1, Value.int k p.2]).toArray
def zeros (n : Nat) : Array Value := (List.replicate n (Value.int .i32 0)).toArray
theorem letterCells_at : ∀ i, i < 33 → (letterCells .i32)[2 * i]? = some (.int .i32 (frm letterRanges i)) ∧ (letterCells .i32)[2 * i + 1]? = some (.int .i32 (too letterRanges i)) := by
  intro i hi
  have h : ∀ i : Fin 33, (letterRanges.flatMap fun p => [(p.1 : Int), (p.2 : Int)])[2 * i.val]? = some ((frm letterRanges i.val : Nat) : Int) ∧ (letterRanges.flatMap fun p => [(p.1 : Int), (p.2 : Int)])[2 * i.val + 1]? = some ((too letterRanges i.val : Nat) : Int) := by decide +kernel
  have e : letterCells .i32 = ((letterRanges.flatMap fun p => [(p.1 : Int), (p.2 : Int)]).map (Value.int .i32)).toArray := by
    unfold letterCells
    rw [List.map_flatMap]; rfl
  have := h ⟨i, hi⟩
  rw [e]
  simp only [List.getElem?_toArray, List.getElem?_map]
  rw [this.1, this.2]
  exact ⟨rfl, rfl⟩
end Go.Proofs.YtnnfkdjmpbgkaaaDoor
