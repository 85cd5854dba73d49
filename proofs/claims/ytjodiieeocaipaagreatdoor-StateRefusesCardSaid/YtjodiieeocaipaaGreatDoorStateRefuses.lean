/-
  The law StateRefuses holds: whatever the input the call returns true, and each argument reads behind it as it did. The card's tie is the given one.
  Condition: the listed variables of the library hold what the library's text lays (the row's own word).
-/
import Derived.Test.YtjodiieeocaipaaGreatDoorTie
import Derived.Test.YtjodiieeocaipaaGreatDoorCards
import Derived.Test.YtjodiieeocaipaaGreatDoorOpen
import Derived.Test.YtjodiieeocaipaaGreatDoorSRefz
import Derived.Test.YtjodiieeocaipaaGreatDoorSLaidH
import Derived.LaidMore
import Derived.Lay
import Derived.SevenTiedAt
import Derived.Stop.Joined
import Derived.LaidHandle
namespace Go.Proofs.YtjodiieeocaipaaGreatDoor.stateRefuses
open Go.ChangeShapes Go.WideShapes Go.ChangeAt Go.RowKit
set_option linter.unusedVariables false

set_option maxRecDepth 100000 in
theorem lifted (os : Os) (started : os.Started) (H : Type) (enc : TypeId × Value → H) :
    ReturnsInHanded {} Tryz.checked os 9 .any (fun w args => (Rows.stateRefusesSpec.pre enc Tryz.prog Tryz.f9 Rows.stateRefusesRow.domain false w args ∧ laidMetH Tryz.prog Rows.stateRefusesRow.laid w) ∧ sizedMet enc Tryz.prog Tryz.f9 (OpenSpec.ofChange Rows.stateRefusesSpec) false w args)
      (Rows.stateRefusesSpec.post enc Tryz.prog Tryz.f9 false true false false) := by
  refine returnsInHanded_of_change_and (C := Tryz.checked) (X := fun w _ => laidMetH Tryz.prog Rows.stateRefusesRow.laid w) (fun _ _ _ hh h => h.of_heap hh) own started (by kernel_rfl) Tryz.func9
    (ChangeSpec.witness_shaped (enc := enc) (C := Tryz.checked) (os := os) (X := fun w _ => laidMetH Tryz.prog Rows.stateRefusesRow.laid w) false (witW os) #[.slice none 0 0, .agg #[.int .i64 0, .int .i64 0, .int .i64 0, .int .i64 0, .int .i64 0, .int .i64 0, .int .i64 0], .agg #[.int .i64 0, .string ByteArray.empty, .string ByteArray.empty, .int .i64 0, .int .i64 0, .int .i64 0, .int .i64 0, .int .i64 0, .int .i64 0, .int .i64 0, .slice none 0 0], .bool false] 8 (witW_os _)
      (World.shaped_of_ZipB (by kernel_rfl) (by kernel_rfl)) (by kernel_rfl) (by kernel_rfl) (by kernel_rfl) (witW_met os _)) ?_
  intro W base args ds gs before hval0 hW hcnd _ hL _
  have hval : ∀ (j : Nat) t v, Tryz.f9.params[j]? = some t → args[j]? = some v → Value.okWide Tryz.prog W .any base t v := hval0
  have hW' := hW
  obtain ⟨p, q, hA0, hV, rfl, hfz, hnd⟩ := hW
  have hA : DataW.TrodAll enc Tryz.prog W 0 (fun _ => true) true Tryz.f9.params.toList args.toList ds p := hA0
  rw [Tryz.params9] at hA hval
  obtain ⟨v0, vs0, d0, ds0, p0, q0, hargs, rfl, rfl, h0, r0⟩ := trodAll_cons hA
  obtain ⟨v1, vs1, d1, ds1, p1, q1, rfl, rfl, rfl, h1, r1⟩ := trodAll_cons r0
  obtain ⟨v2, vs2, d2, ds2, p2, q2, rfl, rfl, rfl, h2, r2⟩ := trodAll_cons r1
  obtain ⟨v3, vs3, d3, ds3, p3, q3, rfl, rfl, rfl, h3, r3⟩ := trodAll_cons r2
  obtain ⟨rfl, rfl, rfl⟩ := trodAll_nil r3
  obtain rfl : args = #[v0, v1, v2, v3] := by cases args; simp_all
  obtain ⟨rfl, rfl⟩ := trodVars_none hV
  have k0 : Came enc W base 39 v0 d0 p0 := ⟨hval 0 39 v0 rfl rfl, h0⟩
  have k1 : Came enc W base 43 v1 d1 p1 := ⟨hval 1 43 v1 rfl rfl, h1⟩
  have k2 : Came enc W base 34 v2 d2 p2 := ⟨hval 2 34 v2 rfl rfl, h2⟩
  have k3 : Came enc W base 4 v3 d3 p3 := ⟨hval 3 4 v3 rfl rfl, h3⟩
  clear hA0 hval0
  refine (stateRefuses_any W (errLaid_of hL) k0 k1 k2 k3).mono fun e W' ⟨he, bel⟩ => ?_
  subst he
  exact ⟨_, rfl, _, _, _, [], _, [], hW', trodAll_mk1 (shut_bool Tryz.underlying4 _), (trodAll_cons_mk (k0.back bel (by kernel_rfl) (of_decide_eq_true (by kernel_rfl))) (trodAll_cons_mk (k1.back bel (by kernel_rfl) (of_decide_eq_true (by kernel_rfl))) (trodAll_cons_mk (k2.back bel (by kernel_rfl) (of_decide_eq_true (by kernel_rfl))) (trodAll_cons_mk (k3.back bel (by kernel_rfl) (of_decide_eq_true (by kernel_rfl))) trodAll_mk0)))), rfl, bel.frame _, fun h => by cases h⟩

theorem over : Rows.stateRefusesRow.holds Tryz.pinned (OpenSpec.ofChange Rows.stateRefusesSpec) :=
  OpenClaim.holds_of_wide 9 Tryz.f9 rfl rfl rfl rfl rfl rfl rfl ⟨rfl, rfl, rfl, rfl, rfl⟩ rfl rfl rfl rfl rfl (by kernel_rfl) Tryz.func9 (by kernel_rfl)
    (of_decide_eq_true (by kernel_rfl)) (by unfold Func.isWrapper; first | (rw [if_pos (by decide +kernel)]; kernel_rfl) | (rw [if_neg (by decide +kernel)]; exact ⟨rfl, rfl⟩))
    (fun os started H enc _ => lifted os started H enc)

set_option maxRecDepth 100000 in
theorem proved : Rows.StateRefusesCardSaid :=
  Claim7.holds_tied_plain_at .later [] [.data, .handle, .pinned] true Rows.stateRefusesCard.stood.harness true over (fun _ h => by cases h) (by kernel_rfl) (fun _ h => by cases h) stateRefuses_row_tie rfl ⟨rfl, rfl⟩ (by kernel_rfl) rfl
    (fun f fn hf hfn => by
      obtain rfl : f = 9 := Option.some.inj ((show Tryz.prog.funcNamed Rows.stateRefusesRow.func = some 9 by kernel_rfl).symm.trans hf) |>.symm
      obtain rfl : fn = Tryz.f9 := (Option.some.inj (Tryz.func9.symm.trans hfn)).symm
      exact ⟨by kernel_rfl, fun j t ht => by
        rw [Tryz.params9] at ht
        have hm : t ∈ [39, 43, 34, 4] := by simpa using Array.mem_of_getElem? ht
        have hall : ([39, 43, 34, 4].all fun u => !Tryz.prog.wantsStandIn u) = true := by kernel_rfl
        exact (show Tryz.prog.wantsStandIn t = false by simpa using List.all_eq_true.1 hall t hm)⟩)
    (by kernel_rfl)
#print axioms proved
end Go.Proofs.YtjodiieeocaipaaGreatDoor.stateRefuses
