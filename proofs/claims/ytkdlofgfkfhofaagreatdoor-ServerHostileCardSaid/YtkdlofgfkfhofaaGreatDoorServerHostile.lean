/-
  The law ServerHostile holds: whatever the input the call returns true, and each argument reads behind it as it did. The card's tie is the given one.
  Condition: the listed variables of the library hold what the library's text lays (the row's own word).
-/
import Derived.Test.YtkdlofgfkfhofaaGreatDoorTie
import Derived.Test.YtkdlofgfkfhofaaGreatDoorCards
import Derived.Test.YtkdlofgfkfhofaaGreatDoorP01
import Derived.Test.YtkdlofgfkfhofaaGreatDoorL25hA
import Derived.Test.YtkdlofgfkfhofaaGreatDoorP42
import Derived.LaidMore
import Derived.Lay
import Derived.SevenTiedAt
import Derived.Stop.Joined
import Derived.LaidHandle
namespace Go.Proofs.YtkdlofgfkfhofaaGreatDoor.serverHostile
open Go.ChangeShapes Go.WideShapes Go.ChangeAt Go.RowKit
set_option linter.unusedVariables false

set_option maxRecDepth 100000 in
theorem lifted (os : Os) (started : os.Started) (H : Type) (enc : TypeId × Value → H) :
    ReturnsInHanded {} Tryz.checked os 5 .any (fun w args => (Rows.serverHostileSpec.pre enc Tryz.prog Tryz.f5 Rows.serverHostileRow.domain false w args ∧ laidMetH Tryz.prog Rows.serverHostileRow.laid w) ∧ sizedMet enc Tryz.prog Tryz.f5 (OpenSpec.ofChange Rows.serverHostileSpec) false w args)
      (Rows.serverHostileSpec.post enc Tryz.prog Tryz.f5 false true false false) := by
  refine returnsInHanded_of_change_and (C := Tryz.checked) (X := fun w _ => laidMetH Tryz.prog Rows.serverHostileRow.laid w) (fun _ _ _ hh h => h.of_heap hh) own started (by kernel_rfl) Tryz.func5
    (ChangeSpec.witness_shaped (enc := enc) (C := Tryz.checked) (os := os) (X := fun w _ => laidMetH Tryz.prog Rows.serverHostileRow.laid w) false (witW os) #[.slice none 0 0, .int .u8 0, .int .i64 0] 8 (witW_os _)
      (World.shaped_of_ZipB (by kernel_rfl) (by kernel_rfl)) (by kernel_rfl) (by kernel_rfl) (by kernel_rfl) (witW_met os _)) ?_
  intro W base args ds gs before hval0 hW hcnd _ hL _
  have hval : ∀ (j : Nat) t v, Tryz.f5.params[j]? = some t → args[j]? = some v → Value.okWide Tryz.prog W .any base t v := hval0
  have hW' := hW
  obtain ⟨p, q, hA0, hV, rfl, hfz, hnd⟩ := hW
  have hA : DataW.TrodAll enc Tryz.prog W 0 (fun _ => true) true Tryz.f5.params.toList args.toList ds p := hA0
  rw [Tryz.params5] at hA hval
  obtain ⟨v0, vs0, d0, ds0, p0, q0, hargs, rfl, rfl, h0, r0⟩ := trodAll_cons hA
  obtain ⟨v1, vs1, d1, ds1, p1, q1, rfl, rfl, rfl, h1, r1⟩ := trodAll_cons r0
  obtain ⟨v2, vs2, d2, ds2, p2, q2, rfl, rfl, rfl, h2, r2⟩ := trodAll_cons r1
  obtain ⟨rfl, rfl, rfl⟩ := trodAll_nil r2
  obtain rfl : args = #[v0, v1, v2] := by cases args; simp_all
  obtain ⟨rfl, rfl⟩ := trodVars_none hV
  have k0 : Came enc W base 26 v0 d0 p0 := ⟨hval 0 26 v0 rfl rfl, h0⟩
  have k1 : Came enc W base 5 v1 d1 p1 := ⟨hval 1 5 v1 rfl rfl, h1⟩
  have k2 : Came enc W base 3 v2 d2 p2 := ⟨hval 2 3 v2 rfl rfl, h2⟩
  clear hA0 hval0
  refine (serverHostile_law W (errLaid_of hL) k0 k1 k2).mono fun e W' ⟨he, bel⟩ => ?_
  subst he
  exact ⟨_, rfl, _, _, _, [], _, [], hW', trodAll_mk1 (shut_bool Tryz.underlying4 _), (trodAll_cons_mk (k0.back bel (by kernel_rfl) (of_decide_eq_true (by kernel_rfl))) (trodAll_cons_mk (k1.back bel (by kernel_rfl) (of_decide_eq_true (by kernel_rfl))) (trodAll_cons_mk (k2.back bel (by kernel_rfl) (of_decide_eq_true (by kernel_rfl))) trodAll_mk0))), rfl, bel.frame _, fun h => by cases h⟩

set_option maxRecDepth 100000 in
set_option maxHeartbeats 2000000 in
theorem closed : joinedFacts Tryz.prog 5 Tryz.f5 Rows.serverHostileSpec Rows.serverHostileRow = true := by
  unfold joinedFacts
  simp only [Bool.and_eq_true]
  repeat' (with_reducible refine And.intro ?_ ?_)
  all_goals (as_aux_lemma => kernel_rfl)

theorem over : Rows.serverHostileRow.holds Tryz.pinned (OpenSpec.ofChange Rows.serverHostileSpec) :=
  OpenClaim.holds_of_wide 5 Tryz.f5 rfl rfl rfl rfl rfl rfl rfl ⟨rfl, rfl, rfl, rfl, rfl⟩ rfl rfl rfl rfl rfl (by as_aux_lemma => kernel_rfl) Tryz.func5 closed
    (of_decide_eq_true (by as_aux_lemma => kernel_rfl)) (by unfold Func.isWrapper; first | (rw [if_pos (by decide +kernel)]; kernel_rfl) | (rw [if_neg (by decide +kernel)]; exact ⟨rfl, rfl⟩))
    (fun os started H enc _ => lifted os started H enc)

set_option maxRecDepth 100000 in
theorem proved : Rows.ServerHostileCardSaid :=
  Claim7.holds_tied_plain_at .later [] [.data, .handle, .pinned] true Rows.serverHostileCard.stood.harness true over (fun _ h => by cases h) (by as_aux_lemma => kernel_rfl) (fun _ h => by cases h) serverHostile_row_tie rfl ⟨rfl, rfl⟩ (by as_aux_lemma => kernel_rfl) rfl
    (fun f fn hf hfn => by
      obtain rfl : f = 5 := Option.some.inj ((show Tryz.prog.funcNamed Rows.serverHostileRow.func = some 5 by as_aux_lemma => kernel_rfl).symm.trans hf) |>.symm
      obtain rfl : fn = Tryz.f5 := (Option.some.inj (Tryz.func5.symm.trans hfn)).symm
      exact ⟨by as_aux_lemma => kernel_rfl, fun j t ht => by
        rw [Tryz.params5] at ht
        have hm : t ∈ [26, 5, 3] := by simpa using Array.mem_of_getElem? ht
        have hall : ([26, 5, 3].all fun u => !Tryz.prog.wantsStandIn u) = true := by as_aux_lemma => kernel_rfl
        exact (show Tryz.prog.wantsStandIn t = false by simpa using List.all_eq_true.1 hall t hm)⟩)
    (by as_aux_lemma => kernel_rfl)
#print axioms proved
end Go.Proofs.YtkdlofgfkfhofaaGreatDoor.serverHostile
