/-
  EntryKinds: whatever came in.
-/
import Derived.Test.YtpfdbbcfcimmfaaDoorEKinds
import Derived.Test.YtpfdbbcfcimmfaaDoorECame
namespace Go.Proofs.YtpfdbbcfcimmfaaDoor
open Go.ChangeShapes Go.WideShapes Go.ChangeAt Go.RowKit
set_option maxRecDepth 100000 in
theorem entryKinds_any {H : Type} {enc : TypeId × Value → H} {base : Nat} {v0 v1 : Value} {d0 d1 : DataW H} {p0 p1 : List MemPlace} (w : World) (hl : ErrLaid w) (h0 : Came enc w base 29 v0 d0 p0) (h1 : Came enc w base 5 v1 d1 p1) :
    Calls Tryd.prog 7 #[v0, v1] w fun er w' => er = .returned (.bool true) ∧ Below w.heap.size w w' := by
  obtain ⟨e, A, n, c, rfl, hr, _⟩ := h0.entry
  obtain ⟨b, rfl⟩ := h1.u8
  exact entryKinds_w e A n c b w hl hr
end Go.Proofs.YtpfdbbcfcimmfaaDoor
