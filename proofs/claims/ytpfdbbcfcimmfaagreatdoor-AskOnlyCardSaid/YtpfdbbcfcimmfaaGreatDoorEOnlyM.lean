/-
  EntryOnly: what is right no more when one field is turned.
-/
import Derived.Test.YtpfdbbcfcimmfaaGreatDoorEMade
namespace Go.Proofs.YtpfdbbcfcimmfaaGreatDoor
open Go.RowKit

theorem made_first (vs : List Val) : (madeE 4 vs).first = 0 := by simp [madeE]
theorem made_off (vs : List Val) : (madeE 3 vs).off = 0 := by simp [madeE]
theorem made_group {k : Int} (h : k ≠ 4) (vs : List Val) : (madeE k vs).group = nul := by
  unfold madeE
  split
  · rfl
  · split
    · rfl
    · split
      · rfl
      · split <;> rfl
theorem made_bat {k : Int} (h : k ≠ 3) (vs : List Val) : (madeE k vs).bat = noB := by
  unfold madeE
  split
  · rfl
  · split
    · rfl
    · split
      · rfl
      · split <;> rfl
theorem not_right {x : Ent} (h : rightE x = true → False) : rightE x = false := by
  cases hx : rightE x
  · rfl
  · exact (h hx).elim
theorem only_first (x : Ent) (hk : x.kind = 4) (k : Int) (h : 1 ≤ k) : rightE ⟨x.kind, x.topic, x.group, x.part, x.parts, k, x.off, x.bat⟩ = false := not_right fun hr => by
  have h1 := congrArg Ent.first (right_facts hr).2.2.2.2
  dsimp only at h1
  rw [hk, made_first] at h1
  omega
theorem only_off (x : Ent) (hk : x.kind = 3) (k : Int) (h : 1 ≤ k) : rightE ⟨x.kind, x.topic, x.group, x.part, x.parts, x.first, k, x.bat⟩ = false := not_right fun hr => by
  have h1 := congrArg Ent.off (right_facts hr).2.2.2.2
  dsimp only at h1
  rw [hk, made_off] at h1
  omega
theorem only_group (x : Ent) (hk : x.kind ≠ 4) : rightE ⟨x.kind, x.topic, ⟨#[103]⟩, x.part, x.parts, x.first, x.off, x.bat⟩ = false := not_right fun hr => by
  have h1 := congrArg Ent.group (right_facts hr).2.2.2.2
  dsimp only at h1
  rw [made_group hk] at h1
  exact absurd h1 (by decide)
theorem only_vals (x : Ent) (hk : x.kind ≠ 3) : rightE ⟨x.kind, x.topic, x.group, x.part, x.parts, x.first, x.off, ⟨x.bat.time, x.bat.prod, x.bat.seq, [⟨#[120]⟩]⟩⟩ = false := not_right fun hr => by
  have h1 := congrArg (fun e => e.bat.vals) (right_facts hr).2.2.2.2
  dsimp only at h1
  rw [made_bat hk] at h1
  exact absurd h1 (by simp [noB])
theorem only_topic (x : Ent) : rightE ⟨x.kind, ⟨#[84]⟩, x.group, x.part, x.parts, x.first, x.off, x.bat⟩ = false := not_right fun hr => by
  have h1 := (right_facts hr).2.2.2.1
  unfold namesE at h1
  rw [Bool.and_eq_true] at h1
  have h2 : nameOk ⟨#[84]⟩ = false := by decide
  rw [h2] at h1
  exact Bool.false_ne_true h1.1
theorem only_kind (x : Ent) (k : Int) (h : 1 ≤ k) : rightE ⟨5 + k, x.topic, x.group, x.part, x.parts, x.first, x.off, x.bat⟩ = false := not_right fun hr => by
  have h1 := right_kind hr
  dsimp only at h1
  omega
/-- a text of its own in a new row -/
theorem RdT.one (w : World) (s : ByteArray) (e : TypeId) (fr : Nat × Nat) : RdT (w.alloc (.cells #[.string s] e fr)) (some ⟨w.heap.size, 0, none⟩) 1 1 [s] := by
  refine ⟨rfl, Nat.le_refl _, by omega, fun k u hu => ⟨_, rfl, by simp, ?_⟩⟩
  have hk : k = 0 := by
    have := (List.getElem?_eq_some_iff.1 hu).1
    simp at this
    exact this
  subst hk
  rw [Addr.add_none, cell_of_row _ _ _ _ _ _ (heap_alloc_new w _), ← hu]
  simp
theorem RdT.one' (w : World) (s : ByteArray) (e : TypeId) (g : Nat) (hg : g = w.heap.size) : RdT (w.alloc (.cells #[.string s] e)) (some ⟨g, 0, none⟩) 1 1 [s] := by
  subst hg
  exact RdT.one w s e (0, 0)
/-- three new rows, each one or the other -/
def St3 (w0 : World) (a b c : Array Value) (w : World) : Prop :=
  Bk w w0.heap.size 26 a ∧ Bk w (w0.heap.size + 1) 26 b ∧ Bk w (w0.heap.size + 1 + 1) 26 c ∧ Below w0.heap.size w0 w
theorem St3.made (w0 : World) (a b c : Array Value) : St3 w0 a b c (((w0.alloc (.cells a 26)).alloc (.cells b 26)).alloc (.cells c 26)).drew := by
  have h1 := Bk.made w0 26 a
  have h2 := Bk.made_at (w0.alloc (.cells a 26)) (w0.heap.size + 1) 26 b (by simp)
  have h3 := Bk.made_at ((w0.alloc (.cells a 26)).alloc (.cells b 26)) (w0.heap.size + 1 + 1) 26 c (by simp)
  exact ⟨((h1.alloc _).alloc _).drawn1, (h2.alloc _).drawn1, h3.drawn1, below_drew1 ((below_two w0 _ _).alloc (below_two w0 _ _).size _)⟩
section
variable {w0 w : World} {a b c X : Array Value} {V : Value} (hV : ∀ {w : World} {G : Nat} {old : Array Value}, Bk w G 26 old → old.size = 11 → (stE (.pointer (some ⟨G, 0, none⟩)) V).run Tryz.prog w = .ok () (w.setRow G X))
include hV
theorem St3.put0 (h : St3 w0 a b c w) (ha : a.size = 11) : ∃ W, (stE (.pointer (some ⟨w0.heap.size, 0, none⟩)) V).run Tryz.prog w = .ok () W ∧ St3 w0 X b c W ∧ Below w0.heap.size w0 W :=
  ⟨_, hV h.1 ha, ⟨Bk.row h.1 X, Bk.row_far h.2.1 X (by omega), Bk.row_far h.2.2.1 X (by omega), below_row h.2.2.2 h.2.2.2.size (by omega) X⟩, below_row h.2.2.2 h.2.2.2.size (by omega) X⟩
theorem St3.put1 (h : St3 w0 a b c w) (hb : b.size = 11) : ∃ W, (stE (.pointer (some ⟨w0.heap.size + 1, 0, none⟩)) V).run Tryz.prog w = .ok () W ∧ St3 w0 a X c W ∧ Below w0.heap.size w0 W :=
  ⟨_, hV h.2.1 hb, ⟨Bk.row_far h.1 X (by omega), Bk.row h.2.1 X, Bk.row_far h.2.2.1 X (by omega), below_row h.2.2.2 h.2.2.2.size (by omega) X⟩, below_row h.2.2.2 h.2.2.2.size (by omega) X⟩
theorem St3.put2 (h : St3 w0 a b c w) (hc : c.size = 11) : ∃ W, (stE (.pointer (some ⟨w0.heap.size + 1 + 1, 0, none⟩)) V).run Tryz.prog w = .ok () W ∧ St3 w0 a b X W ∧ Below w0.heap.size w0 W :=
  ⟨_, hV h.2.2.1 hc, ⟨Bk.row_far h.1 X (by omega), Bk.row_far h.2.1 X (by omega), Bk.row h.2.2.1 X, below_row h.2.2.2 h.2.2.2.size (by omega) X⟩, below_row h.2.2.2 h.2.2.2.size (by omega) X⟩
end
end Go.Proofs.YtpfdbbcfcimmfaaGreatDoor
