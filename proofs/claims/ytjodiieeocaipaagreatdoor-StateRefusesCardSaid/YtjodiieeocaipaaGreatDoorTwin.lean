/-
  A twin of the marks.
-/
import Derived.Test.YtjodiieeocaipaaGreatDoorGrp
import Derived.Shelf.SlMaps.Clone
namespace Go.Proofs.YtjodiieeocaipaaGreatDoor
open Go.RowKit Go.Maps

set_option maxRecDepth 100000 in
theorem clone_any (b : Nat) (es : Array MapEntry) (clock : Nat) (w : World) (hb : w.heap[b]? = some (.map es clock)) :
    Calls Tryz.prog 64 #[.map (some b)] w fun e w' => e = .returned (.map (some w.heap.size)) ∧ w' = w.alloc (.map es clock) := by
  have hq := fun w => run_eql_map_nil_sl (P := Tryz.prog) w 96 _ _ (some b) Tryz.underlying96
  have hx := @run_callFunc_extern Tryz.prog 92 _ Extern.MapsClone.clone Tryz.func92 (by kernel_rfl) (by kernel_rfl) (by kernel_rfl) (by kernel_rfl)
  have hcl := run_maps_clone_sl (P := Tryz.prog) w 96 hb
  have hta := fun w v => run_typeAssert_map_sl (P := Tryz.prog) w 96 20 _ _ v Tryz.underlying96
  go_enter Tryz.func64, Tryz.ntmps64
  go_wp2
  go_ret
  exact ⟨rfl, rfl⟩
set_option maxRecDepth 100000 in
theorem twin_any (g b : Nat) (D : DataW Unit) (w : World) (h : Grp w g b D) :
    Calls Tryz.prog 37 #[.pointer (some ⟨g, 0, none⟩)] w fun e w' => e = .returned (.pointer (some ⟨w.heap.size + 1, 0, none⟩)) ∧ Grp w' (w.heap.size + 1) w.heap.size D ∧ Below w.heap.size w w' := by
  have hc := h.cell
  obtain ⟨es, clock, hb, hf, hs, he⟩ := h.own
  have hC := Lib.hid (clone_any b es clock w hb)
  have hN : (w.alloc (.map es clock)).ownsMap Tryz.prog 134 (plainElem Tryz.prog 3) w.heap.size (Maps.size D) D := ⟨es, clock, heap_alloc_new w _, hf, hs, he⟩
  have HN := Lib.hid hN
  clear hN hb hf hs he
  go_enter Tryz.func37, Tryz.ntmps37
  go_wp2_with (first | (go_at_call 64; refine hC.out.mono ?_; rintro e w1 ⟨rfl, rfl⟩) | fail)
  go_ret
  have hsz : (w.alloc (.map es clock)).heap.size = w.heap.size + 1 := by simp
  refine ⟨rfl, ⟨?_, by omega, HN.out.alloc _⟩, (below_new w _).trans (below_le (by simp) (below_new _ _))⟩
  have := Bk.made (w.alloc (.map es clock)) 98 #[.map (some w.heap.size)]
  rwa [hsz] at this
end Go.Proofs.YtjodiieeocaipaaGreatDoor
