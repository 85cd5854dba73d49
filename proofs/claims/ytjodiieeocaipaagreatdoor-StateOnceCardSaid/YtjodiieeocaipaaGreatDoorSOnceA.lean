/-
  stavelaw21: StateOnce, over whatever came.
-/
import Derived.Test.YtjodiieeocaipaaGreatDoorSOnce
namespace Go.Proofs.YtjodiieeocaipaaGreatDoor
open Go.ChangeShapes Go.WideShapes Go.ChangeAt Go.RowKit
set_option maxRecDepth 100000 in
theorem stateOnce_any {H : Type} {enc : TypeId × Value → H} {base : Nat} {v0 v1 : Value} {d0 d1 : DataW H} {p0 p1 : List MemPlace} (w : World) (hl : ErrLaid w) (h0 : Came enc w base 47 v0 d0 p0) (h1 : Came enc w base 3 v1 d1 p1) :
    Calls Tryz.prog 5 #[v0, v1] w fun er w' => er = .returned (.bool true) ∧ Below w.heap.size w w' := by
  obtain ⟨A, n, c, l, rfl, hr⟩ := h0.ints
  obtain ⟨z, rfl, hz⟩ := h1.int
  exact stOnce_any A n c l z hz w hr hl
end Go.Proofs.YtjodiieeocaipaaGreatDoor
