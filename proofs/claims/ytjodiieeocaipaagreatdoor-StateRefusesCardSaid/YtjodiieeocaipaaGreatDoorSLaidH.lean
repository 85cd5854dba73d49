/-
  The rows that list errors' own variable beside the tables of utf8: what the row's condition says of its cell; a world that meets the condition.
-/
import Derived.Test.YtjodiieeocaipaaGreatDoorAErr
import Derived.Test.YtjodiieeocaipaaGreatDoorOpen
import Derived.LaidMore
import Derived.Lay
import Derived.Stop.Joined
import Derived.LaidHandle
namespace Go.Proofs.YtjodiieeocaipaaGreatDoor
open Go.RowKit

/-- what the rows list -/
def L3 : List (String × DataW Unit) := Rows.stateRunsRow.laid
/-- .. without the handle -/
def L2 : List (String × DataW Unit) := L3.filter fun x => x.2.handleName?.isNone
theorem rtype_is : (Tryz.prog.cutTypes.find? (·.1 == "internal/reflectlite.rtype")).map (·.2) = some 175 := by kernel_rfl
theorem error_row : ((List.range Tryz.prog.types.size).filter fun t => Tryz.prog.rowNamed t [101, 114, 114, 111, 114]) = [27] := by kernel_rfl
theorem errType_is : Tryz.prog.globalNamed "errors.errorType" = some 0 := by kernel_rfl
theorem handle_error : typeHandle Tryz.prog 27 = .pointer (some ⟨4, 27, none⟩) := by kernel_rfl
set_option maxRecDepth 100000 in
theorem errLaid_of {W : World} (h : laidMetH Tryz.prog L3 W) : ErrLaid W := by
  have h' : laidMet Tryz.prog (L3.filter fun x => x.2.handleName?.isNone) W ∧ handlesMet Tryz.prog [("errors.errorType", Rows.laid_errors_errorType)] W := h
  obtain ⟨name, u, ty, e1, e2, e3, e4, e5⟩ := h'.2 _ (List.mem_singleton.2 rfl)
  have en : name = [101, 114, 114, 111, 114] := (Option.some.inj e1).symm
  subst en
  obtain rfl := Option.some.inj (rtype_is.symm.trans e2)
  have hm : ty ∈ (List.range Tryz.prog.types.size).filter fun t => Tryz.prog.rowNamed t [101, 114, 114, 111, 114] := List.mem_filter.2 ⟨List.mem_range.2 e3, e4⟩
  rw [error_row] at hm
  obtain rfl := List.mem_singleton.1 hm
  rw [handle_error] at e5
  have := World.var?_cell errType_is e5 0
  simpa [ErrLaid] using this

/-- the settled world, errors' variable laid -/
noncomputable def errW (os : Os) : World :=
  let w0 := World.holding Tryz.prog os ⟨#[], #[], []⟩
  { w0 with heap := w0.heap.modify 0 fun
      | .cells _ t frozen => .cells #[.iface 175 (.agg #[.pointer (some ⟨4, 27, none⟩)])] t frozen
      | o => o }
noncomputable def witW (os : Os) : World := (errW os).layVars Tryz.prog L2
theorem witW_os (os : Os) : (witW os).os = os := World.layVars_os _ _ _
theorem laidMet_over {P : Program} {w0 : World} {laid : List (String × DataW Unit)} (args : Array Value) (hf : w0.layFits P laid [] = true) (hi : w0.layIfaces P laid (w0.layVars P laid) = true) :
    laidMet P laid ((w0.layVars P laid).forCall (fun _ _ => 0) ⟨#[], args, []⟩).memory := by
  have e1 : (laid.filter fun x => (laid.map (·.1)).contains x.1) = laid := List.filter_eq_self.2 fun x hx => List.contains_iff_mem.2 (List.mem_map.2 ⟨x, hx, rfl⟩)
  have e2 : (laid.filter fun x => !(laid.map (·.1)).contains x.1) = [] := List.filter_eq_nil_iff.2 fun x hx => by rw [List.contains_iff_mem.2 (List.mem_map.2 ⟨x, hx, rfl⟩)]; simp
  have h : laidMet P laid (w0.layVars P laid) := laidMet_layVars (w0 := w0) (laid.map (·.1)) [] (by rw [e1]) (by rw [e1]; exact hf) (by rw [e1]; exact hi) (by rw [e2]; exact LaidIn.none)
  exact h.of_heap (by simp [World.memory, World.forCall, Input.heap])
theorem L2_is : (L3.filter fun x => x.2.handleName?.isNone) = L2 := by kernel_rfl
set_option maxRecDepth 100000 in
theorem witW_met (os : Os) (args : Array Value) : laidMetH Tryz.prog L3 ((witW os).forCall (fun _ _ => 0) ⟨#[], args, []⟩).memory :=
  laidMetH_of_parts (by rw [L2_is]; exact laidMet_over args (by kernel_rfl) (by kernel_rfl)) (by kernel_rfl)
end Go.Proofs.YtjodiieeocaipaaGreatDoor
