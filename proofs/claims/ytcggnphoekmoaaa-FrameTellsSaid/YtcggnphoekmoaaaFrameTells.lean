/-
  The law FrameTells holds: whatever the input the call returns true, and each argument reads behind it as it did.
  No condition.
-/
import Derived.Test.YtcggnphoekmoaaaOpen
import Derived.Test.YtcggnphoekmoaaaFrmTells
namespace Go.Proofs.Ytcggnphoekmoaaa.frameTells
open Go.ChangeShapes Go.WideShapes Go.ChangeAt Go.RowKit
set_option linter.unusedVariables false

set_option maxRecDepth 100000 in
theorem lifted (os : Os) (started : os.Started) (H : Type) (enc : TypeId × Value → H) :
    ReturnsInHanded {} Try.checked os 7 .any (Rows.frameTellsSpec.pre6 enc Try.prog Try.f7 Rows.frameTellsRow.domain false) (Rows.frameTellsSpec.post enc Try.prog Try.f7 false true false false) := by
  refine returnsInHanded_of_change (C := Try.checked) own started (by kernel_rfl) Try.func7
    (ChangeSpec.witness6 (enc := enc) (C := Try.checked) false ⟨#[], #[.agg zeroF.cells, .slice none 0 0, .int .i64 0, .int .u8 0], []⟩ 8 (by kernel_rfl) (by kernel_rfl) (by kernel_rfl) (by kernel_rfl)) ?_
  intro W base args ds gs before hval0 hW hcnd _
  have hval : ∀ (j : Nat) t v, Try.f7.params[j]? = some t → args[j]? = some v → Value.okWide Try.prog W .any base t v := hval0
  have hW' := hW
  obtain ⟨p, q, hA0, hV, rfl, hfz, hnd⟩ := hW
  have hA : DataW.TrodAll enc Try.prog W 0 (fun _ => true) true Try.f7.params.toList args.toList ds p := hA0
  rw [Try.params7] at hA hval
  obtain ⟨v0, vs0, d0, ds0, p0, q0, hargs, rfl, rfl, h0, r0⟩ := trodAll_cons hA
  obtain ⟨v1, vs1, d1, ds1, p1, q1, rfl, rfl, rfl, h1, r1⟩ := trodAll_cons r0
  obtain ⟨v2, vs2, d2, ds2, p2, q2, rfl, rfl, rfl, h2, r2⟩ := trodAll_cons r1
  obtain ⟨v3, vs3, d3, ds3, p3, q3, rfl, rfl, rfl, h3, r3⟩ := trodAll_cons r2
  obtain ⟨rfl, rfl, rfl⟩ := trodAll_nil r3
  obtain rfl : args = #[v0, v1, v2, v3] := by cases args; simp_all
  obtain ⟨rfl, rfl⟩ := trodVars_none hV
  have k0 : Came enc W base 38 v0 d0 p0 := ⟨hval 0 38 v0 rfl rfl, h0⟩
  have k1 : Came enc W base 24 v1 d1 p1 := ⟨hval 1 24 v1 rfl rfl, h1⟩
  have k2 : Came enc W base 3 v2 d2 p2 := ⟨hval 2 3 v2 rfl rfl, h2⟩
  have k3 : Came enc W base 5 v3 d3 p3 := ⟨hval 3 5 v3 rfl rfl, h3⟩
  clear hA0 hval0
  refine (frameTells_any W k0 k1 k2 k3).mono fun e W' ⟨he, bel⟩ => ?_
  subst he
  exact ⟨_, rfl, _, _, _, [], _, [], hW', trodAll_mk1 (shut_bool Try.underlying4 _), (trodAll_cons_mk (k0.back bel (by kernel_rfl) (of_decide_eq_true (by kernel_rfl))) (trodAll_cons_mk (k1.back bel (by kernel_rfl) (of_decide_eq_true (by kernel_rfl))) (trodAll_cons_mk (k2.back bel (by kernel_rfl) (of_decide_eq_true (by kernel_rfl))) (trodAll_cons_mk (k3.back bel (by kernel_rfl) (of_decide_eq_true (by kernel_rfl))) trodAll_mk0)))), rfl, bel.frame _, fun h => by cases h⟩

theorem over : Rows.frameTellsRow.holds Try.pinned (OpenSpec.ofChange Rows.frameTellsSpec) :=
  OpenClaim.holds_of_wide 7 Try.f7 rfl rfl rfl rfl rfl rfl rfl ⟨rfl, rfl, rfl, rfl, rfl⟩ rfl rfl rfl rfl rfl (by kernel_rfl) Try.func7 (by kernel_rfl)
    (of_decide_eq_true (by kernel_rfl)) (by unfold Func.isWrapper; first | (rw [if_pos (by decide +kernel)]; kernel_rfl) | (rw [if_neg (by decide +kernel)]; exact ⟨rfl, rfl⟩))
    (fun os started H enc _ => lifted os started H enc)

theorem proved : Rows.FrameTellsSaid := over
#print axioms proved
end Go.Proofs.Ytcggnphoekmoaaa.frameTells
