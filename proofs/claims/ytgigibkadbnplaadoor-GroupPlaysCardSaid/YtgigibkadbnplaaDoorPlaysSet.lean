/-
  Set on both sides: what each answers, what stands behind it.
-/
import Derived.Test.YtgigibkadbnplaaDoorPlaysMath
import Derived.Test.YtgigibkadbnplaaDoorMarkN
import Derived.Test.YtgigibkadbnplaaDoorGrpAsk
import Derived.Deep.RegionHeld3
namespace Go.Proofs.YtgigibkadbnplaaDoor
open Go.RowKit Go.Maps

theorem RefG.keep {w w' : World} {B rg : Nat} {A : Option Addr} {c : Nat} {l : List Mk} (h : RefG w B rg A c l) {b : Nat} (hg : w.grownBy w' (some b)) (h1 : b < B) (h2 : b ≠ rg) : RefG w' B rg A c l :=
  ⟨h.bk.grown hg (fun e => h2 (Option.some.inj e).symm), h.own.kept hg (.inl (fun e => by have := h.own.ge b e; omega)), h.ne⟩
theorem RefG.drawn {w : World} {B rg : Nat} {A : Option Addr} {c : Nat} {l : List Mk} (h : RefG w B rg A c l) (q : Nat) : RefG (w.drewN q) B rg A c l := ⟨h.bk, h.own, h.ne⟩
/-- what Set does, on both sides -/
structure SetBoth (g b B rg : Nat) (D : DataW Unit) (A : Option Addr) (c : Nat) (l : List Mk) (a t : ByteArray) (p o : Int) (v : Value) (code : Int) (D' : DataW Unit) (l' : List Mk) : Prop where
  grp : ∀ w, Grp w g b D → Calls Tryd.prog 9 #[.pointer (some ⟨g, 0, none⟩), .string a, .string t, .int .i64 p, .int .i64 o] w fun e w' => e = .returned v ∧ Grp w' g b D' ∧ w.grownBy w' (some b)
  kind : ∀ w, ErrLaid w → Calls Tryd.prog 18 #[v] w fun e w' => e = .returned (.int .i64 code) ∧ Below w.heap.size w w'
  ref : ∀ w, RefG w B rg A c l → B ≤ w.heap.size → Calls Tryd.prog 19 #[.pointer (some ⟨rg, 0, none⟩), .string a, .string t, .int .i64 p, .int .i64 o] w fun e w' => e = .returned (.int .i64 code) ∧ (∃ A' c', RefG w' B rg A' c' l') ∧ w.grownBy w' (some rg)
  sim : Sim D' l'
  le : l'.length ≤ 32
theorem set_both (g b B rg : Nat) (D : DataW Unit) (A : Option Addr) (c : Nat) (l : List Mk) (a t : ByteArray) (p o : Int) (S : Sim D l) (hD : Maps.IsMap D) (hsize : Maps.size D = l.length) (hl : l.length ≤ 32) (ha : a.size ≤ maxLen) (ht : t.size ≤ maxLen) (hp : (Lit.int .i64 p).wf = true) (ho : (Lit.int .i64 o).wf = true) :
    ∃ v code D' l', SetBoth g b B rg D A c l a t p o v code D' l' := by
  have hpw := wf_i64 hp
  have how := wf_i64 ho
  have ha' : a.size ≤ 9223372036854775807 := ha
  have ht' : t.size ≤ 9223372036854775807 := ht
  by_cases hbad : nameOk a = false ∨ (nameOk a = true ∧ nameOk t = false) ∨ (nameOk a = true ∧ nameOk t = true ∧ p < 0) ∨ (nameOk a = true ∧ nameOk t = true ∧ 0 ≤ p ∧ 4 ≤ p) ∨ (nameOk a = true ∧ nameOk t = true ∧ 0 ≤ p ∧ p < 4 ∧ o < 0)
  · exact ⟨faultV opSet p 1, 1, D, l, fun w h => (set_bad _ a t p o w ha' ht' hbad).mono fun e w' ⟨h1, h2⟩ => ⟨h1, h.ext h2, (grown_of_below h2).but _⟩, fun w h => kind_fault opSet p 1 w h,
      fun w h _ => (refSet_bad _ a t p o w ha' ht' hbad).mono fun e w' ⟨h1, h2⟩ => ⟨h1, ⟨A, c, by rw [h2]; exact h⟩, by rw [h2]; exact World.grownBy.refl _ _⟩, S, hl⟩
  · obtain ⟨na, nt, p0, p4, o0⟩ : nameOk a = true ∧ nameOk t = true ∧ 0 ≤ p ∧ p < 4 ∧ 0 ≤ o := by
      cases h1 : nameOk a
      · exact absurd (.inl h1) hbad
      · cases h2 : nameOk t
        · exact absurd (.inr (.inl ⟨h1, h2⟩)) hbad
        · refine ⟨rfl, rfl, ?_⟩
          by_cases h3 : p < 0
          · exact absurd (.inr (.inr (.inl ⟨h1, h2, h3⟩))) hbad
          · by_cases h4 : 4 ≤ p
            · exact absurd (.inr (.inr (.inr (.inl ⟨h1, h2, by omega, h4⟩)))) hbad
            · by_cases h5 : o < 0
              · exact absurd (.inr (.inr (.inr (.inr ⟨h1, h2, by omega, by omega, h5⟩)))) hbad
              · omega
    have hhas := S.has_find ha ht hp
    cases hf : findM l a t p with
    | some i =>
      rw [hf] at hhas
      exact ⟨.nilIface, 0, _, _, fun w h => set_ok g b D a t p o w h na nt p0 p4 o0 how.2 (.inl hhas) (by omega), fun w _ => kind_nil w,
        fun w h hB => refSet_hit B rg A c l a t p o w h hB (by omega) na nt p0 p4 o0 i hf, S.hit hD ha ht hp o hf, by rw [List.length_set]; exact hl⟩
    | none =>
      rw [hf] at hhas
      by_cases hroom : l.length < 32
      · exact ⟨.nilIface, 0, _, _, fun w h => set_ok g b D a t p o w h na nt p0 p4 o0 how.2 (.inr (by omega)) (by omega), fun w _ => kind_nil w,
          fun w h hB => refSet_new B rg A c l a t p o w h hB na nt p0 p4 o0 hf hroom, S.new hD ha ht hp o hf, by rw [List.length_append]; exact hroom⟩
      · exact ⟨faultV opSet p 8, 8, D, l, fun w h => (set_full g b D a t p o w h na nt p0 p4 o0 hhas (by omega)).mono fun e w' ⟨h1, h2⟩ => ⟨h1, h.ext h2, (grown_of_below h2).but _⟩, fun w h => kind_fault opSet p 8 w h,
          fun w h _ => (refSet_full B rg A c l a t p o w h na nt p0 p4 o0 hf (by omega)).mono fun e w' ⟨h1, h2⟩ => ⟨h1, ⟨A, c, h.ext h2⟩, (grown_of_below h2).but _⟩, S, hl⟩
end Go.Proofs.YtgigibkadbnplaaDoor
