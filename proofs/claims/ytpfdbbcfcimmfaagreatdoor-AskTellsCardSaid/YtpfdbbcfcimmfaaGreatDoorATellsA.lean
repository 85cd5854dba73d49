/-
  AskTells: whatever came in.
-/
import Derived.Test.YtpfdbbcfcimmfaaGreatDoorATells
import Derived.Test.YtpfdbbcfcimmfaaGreatDoorACame
namespace Go.Proofs.YtpfdbbcfcimmfaaGreatDoor
open Go.ChangeShapes Go.WideShapes Go.ChangeAt Go.RowKit
set_option maxRecDepth 100000 in
theorem askTells_any {H : Type} {enc : TypeId × Value → H} {base : Nat} {v0 v1 v2 v3 : Value} {d0 d1 d2 d3 : DataW H} {p0 p1 p2 p3 : List MemPlace} (w : World) (hl : ErrLaid w) (h0 : Came enc w base 47 v0 d0 p0) (h1 : Came enc w base 27 v1 d1 p1) (h2 : Came enc w base 3 v2 d2 p2) (h3 : Came enc w base 5 v3 d3 p3) :
    Calls Tryz.prog 5 #[v0, v1, v2, v3] w fun er w' => er = .returned (.bool true) ∧ Below w.heap.size w w' := by
  obtain ⟨e, A, n, c, rfl, hr⟩ := h0.ask
  obtain ⟨Ab, nb, cb, lb, rfl, hb⟩ := h1.bytes
  obtain ⟨z, rfl, hz⟩ := h2.int
  obtain ⟨b0, rfl⟩ := h3.u8
  exact askTells_w e A n c Ab nb cb lb z hz b0 w hr hb hl
end Go.Proofs.YtpfdbbcfcimmfaaGreatDoor
