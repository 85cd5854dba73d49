/-
  stavelaw25: ServerHostile, over whatever came.
-/
import Derived.Test.YtkdlofgfkfhofaaGreatDoorL25h
namespace Go.Proofs.YtkdlofgfkfhofaaGreatDoor
open Go.ChangeShapes Go.WideShapes Go.ChangeAt Go.RowKit
set_option maxRecDepth 100000 in
theorem serverHostile_law {H : Type} {enc : TypeId × Value → H} {base : Nat} {v0 v1 v2 : Value} {d0 d1 d2 : DataW H} {p0 p1 p2 : List MemPlace} (w : World) (hl : ErrLaid w) (h0 : Came enc w base 26 v0 d0 p0) (h1 : Came enc w base 5 v1 d1 p1) (h2 : Came enc w base 3 v2 d2 p2) :
    Calls Tryz.prog 5 #[v0, v1, v2] w fun er w' => er = .returned (.bool true) ∧ Below w.heap.size w w' := by
  obtain ⟨A, n, c, l, rfl, hr⟩ := h0.bytes
  obtain ⟨u, rfl⟩ := h1.u8
  obtain ⟨z, rfl, hz⟩ := h2.int
  exact serverHostile_any A n c l u z hz hr hl
end Go.Proofs.YtkdlofgfkfhofaaGreatDoor
