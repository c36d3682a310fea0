import Derived.Laws.IdiomStrings
import Derived.Test.YtbjbcfiieacamaaGreatDoorUG
namespace Go.Proofs.YtbjbcfiieacamaaGreatDoor
open Go.RowKit
set_option linter.unusedVariables false

/-- A list of bytes of the call's own: its block and its bytes. -/
def Bts (w : World) (g : Nat) (L : List UInt8) : Prop := g < w.heap.size ∧ ∀ (j : Nat) (hj : j < L.length), w.cell? ⟨g, j, none⟩ = some (.int .u8 (L[j].toNat : Int))
theorem Bts.below {w w' : World} {g B : Nat} {L : List UInt8} (h : Bts w g L) (hb : Below B w w') (hg : g < B) : Bts w' g L := ⟨Nat.lt_of_lt_of_le h.1 hb.size, fun j hj => (hb.cell (p := ⟨g, j, none⟩) hg).trans (h.2 j hj)⟩
theorem Bts.conv {w : World} {g : Nat} {L : List UInt8} (h : Bts w g L) {n : Nat} (hn : n = L.length) (c : Nat) : (convert 23 9 (.slice (some ⟨g, 0, none⟩) n c)).run Tryz.prog w = .ok (.string ⟨L.toArray⟩) w := by
  subst hn
  exact run_convert_bytes_back w 23 9 5 ⟨g, 0, none⟩ c L Tryz.underlying23 Tryz.underlying5 Tryz.underlying9 (fun j hj => by rw [add_head]; exact h.2 j hj)
theorem made_bytes (n : Nat) : (madeCells (Value.cells (.int .u8 0)) (n * 1)).toList = (List.replicate n (0 : UInt8)).map (fun b => Value.int .u8 (b.toNat : Int)) := by
  have h : (madeCells #[Value.int .u8 0] n).toList = List.replicate n (Value.int .u8 0) := toList_madeCells_one _ n
  rw [Nat.mul_one]
  show (madeCells #[Value.int .u8 0] n).toList = _
  rw [h, List.map_replicate]
  rfl
end Go.Proofs.YtbjbcfiieacamaaGreatDoor
