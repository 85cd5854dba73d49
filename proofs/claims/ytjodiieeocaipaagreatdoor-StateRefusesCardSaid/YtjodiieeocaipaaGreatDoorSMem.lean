/-
  Memory of the broker's catalogue: what turns, and what does not; an index, a log, what producers sent.
-/
import Derived.Test.YtjodiieeocaipaaGreatDoorSMod
import Derived.Test.YtjodiieeocaipaaGreatDoorGrp
namespace Go.Proofs.YtjodiieeocaipaaGreatDoor
open Go.RowKit Go.Maps

/-- only blocks of P turned, and new ones came -/
structure Turned (P : Nat → Prop) (w w' : World) : Prop where
  os : w'.os = w.os
  tape : w'.tape = w.tape
  output : w'.output = w.output
  size : w.heap.size ≤ w'.heap.size
  block : ∀ i, i < w.heap.size → ¬ P i → w'.heap[i]? = w.heap[i]?
/-- P, and whatever is new -/
def Wide (P : Nat → Prop) (w : World) (i : Nat) : Prop := P i ∨ w.heap.size ≤ i
section
variable {P Q : Nat → Prop} {w w1 w' w0 : World} {B : Nat} {row : Option Nat}
theorem Turned.refl (P : Nat → Prop) (w : World) : Turned P w w := ⟨rfl, rfl, rfl, Nat.le_refl _, fun _ _ _ => rfl⟩
theorem Turned.of_grown (h : w.grownBy w' row) (hr : ∀ k, row = some k → P k) : Turned P w w' :=
  ⟨h.os, h.tape, h.output, h.size, fun i hi hp => h.block i hi (fun e => hp (hr i e.symm))⟩
theorem Turned.of_below (h : Below w.heap.size w w') : Turned P w w' := ⟨h.os, h.tape, h.output, h.size, fun i hi _ => h.block i hi⟩
theorem Turned.trans (h : Turned P w w1) (h2 : Turned Q w1 w') (hq : ∀ i, i < w.heap.size → Q i → P i) : Turned P w w' :=
  ⟨h2.os.trans h.os, h2.tape.trans h.tape, h2.output.trans h.output, Nat.le_trans h.size h2.size, fun i hi hp => (h2.block i (Nat.lt_of_lt_of_le hi h.size) (fun hx => hp (hq i hi hx))).trans (h.block i hi hp)⟩
theorem Turned.wide (h : Turned P w w1) (h2 : Turned (Wide P w) w1 w') : Turned P w w' := h.trans h2 fun i hi hq => by
  rcases hq with hq | hq
  · exact hq
  · omega
theorem Turned.more (h : Turned P w w') (hq : ∀ i, i < w.heap.size → P i → Q i) : Turned Q w w' :=
  ⟨h.os, h.tape, h.output, h.size, fun i hi hp => h.block i hi (fun hx => hp (hq i hi hx))⟩
theorem Turned.below (h : Turned P w w') (hb : Below B w0 w) (hB : B ≤ w.heap.size) (hp : ∀ i, P i → B ≤ i) : Below B w0 w' :=
  ⟨h.os.trans hb.os, h.tape.trans hb.tape, h.output.trans hb.output, Nat.le_trans hb.size h.size, fun i hi => (h.block i (by omega) (fun hx => by have := hp i hx; omega)).trans (hb.block i hi)⟩
theorem Turned.then_grown (h : Turned P w w1) (h2 : w1.grownBy w' row) (hr : ∀ k, row = some k → P k ∨ w.heap.size ≤ k) : Turned P w w' := h.wide (Turned.of_grown h2 hr)
theorem Turned.then_below (h : Turned P w w1) (h2 : Below w1.heap.size w1 w') : Turned P w w' := h.wide (Turned.of_below h2)
theorem Bk.turned {g : Nat} {t : TypeId} {cs : Array Value} (h : Bk w g t cs) (ht : Turned P w w') (hp : ¬ P g) : Bk w' g t cs := (ht.block g h.lt hp).trans h
theorem own_turned {base : Nat} {e : TypeId} {size : Nat} {v : Value} {n : Nat} {xs : List Value} (h : w.ownsRow base e size v n xs) (ht : Turned P w w') (hp : ∀ g, v.ownBlock = some g → ¬ P g) : w'.ownsRow base e size v n xs := by
  refine ⟨h.1, ?_⟩
  rcases h.2 with h2 | ⟨g, cap, cur, rfl, hb, hg, h3⟩
  · exact .inl h2
  · exact .inr ⟨g, cap, cur, rfl, hb, (ht.block g (Array.getElem?_eq_some_iff.1 hg).1 (hp g rfl)).trans hg, h3⟩
theorem map_turned {H : Type} {k : TypeId} {R : Value → Option (DataW H × List MemPlace)} {b n : Nat} {D : DataW H} (h : w.ownsMap Tryz.prog k R b n D) (ht : Turned P w w') (hp : ¬ P b) : w'.ownsMap Tryz.prog k R b n D := by
  have hlt := h.lt
  obtain ⟨es, clock, hb, F, hs, hD⟩ := h
  exact ⟨es, clock, (ht.block b hlt hp).trans hb, F, hs, hD⟩
end

/-! ### an index -/
def Hd.cells (h : Hd) : List Value := [.int .i64 h.base, .int .i64 h.cnt, .int .i64 h.time, .int .i64 h.stripe, .int .i64 h.ent]
theorem h5 (h : Hd) : h.cells.length = 5 := rfl
def iv (z : Int) : Value := .int .i64 z
/-- of every four heads the first one's base -/
def marksOf (l : List Hd) : List Int := match l with
  | a :: _ :: _ :: _ :: e :: r => a.base :: marksOf (e :: r)
  | a :: _ => [a.base]
  | [] => []
theorem marks_at : ∀ (l : List Hd) (k : Nat), (marksOf l)[k]? = (l[4 * k]?).map Hd.base
  | [], k => by simp [marksOf]
  | [a], k => by cases k <;> simp [marksOf]
  | [a, b], k => by cases k with
    | zero => simp [marksOf]
    | succ k => rw [List.getElem?_eq_none (by simp [marksOf]), List.getElem?_eq_none (by simp; omega)]; rfl
  | [a, b, c], k => by cases k with
    | zero => simp [marksOf]
    | succ k => rw [List.getElem?_eq_none (by simp [marksOf]), List.getElem?_eq_none (by simp; omega)]; rfl
  | [a, b, c, d], k => by cases k with
    | zero => simp [marksOf]
    | succ k => rw [List.getElem?_eq_none (by simp [marksOf]), List.getElem?_eq_none (by simp; omega)]; rfl
  | a :: b :: c :: d :: e :: r, k => by
    cases k with
    | zero => simp [marksOf]
    | succ k =>
      have := marks_at (e :: r) k
      show (a.base :: marksOf (e :: r))[k + 1]? = _
      rw [List.getElem?_cons_succ, this, show 4 * (k + 1) = 4 * k + 1 + 1 + 1 + 1 by omega]
      rfl
theorem marks_len (l : List Hd) : (marksOf l).length = (l.length + 3) / 4 := by
  have h1 : ∀ k, k < (marksOf l).length ↔ 4 * k < l.length := fun k => by
    have := marks_at l k
    constructor
    · intro h
      rw [List.getElem?_eq_getElem h] at this
      cases h2 : l[4 * k]? with
      | none => rw [h2] at this; cases this
      | some x => exact (List.getElem?_eq_some_iff.1 h2).1
    · intro h
      rw [List.getElem?_eq_getElem h] at this
      exact (List.getElem?_eq_some_iff.1 this).1
  have a1 := h1 (marksOf l).length
  have a2 := h1 ((marksOf l).length - 1)
  omega
theorem marks_snoc (l : List Hd) (h : Hd) : marksOf (l ++ [h]) = if l.length % 4 = 0 then marksOf l ++ [h.base] else marksOf l := by
  apply List.ext_getElem?
  intro k
  rw [marks_at]
  have hl := marks_len l
  have hk := marks_at l k
  split
  · rename_i h4
    rcases Nat.lt_trichotomy (4 * k) l.length with hlt | heq | hgt
    · rw [List.getElem?_append_left hlt, List.getElem?_append_left (by omega), hk]
    · rw [List.getElem?_append_right (by omega), List.getElem?_append_right (by omega), heq, show k - (marksOf l).length = 0 by omega]
      simp
    · rw [List.getElem?_append_right (by omega), List.getElem?_append_right (by omega)]
      rw [List.getElem?_eq_none (by simp; omega), List.getElem?_eq_none (by simp; omega)]
      rfl
  · rename_i h4
    rcases Nat.lt_or_ge (4 * k) l.length with hlt | hge
    · rw [List.getElem?_append_left hlt, hk]
    · rw [hk, List.getElem?_append_right hge, List.getElem?_eq_none (l := l) hge, List.getElem?_eq_none (by simp; omega)]
/-- the Index behind block ib has the heads l; its blocks are of P -/
structure IdxAt (w : World) (P : Nat → Prop) (ib : Nat) (l : List Hd) : Prop where
  at_ : ∃ hv mv, Bk w ib 136 #[.int .i64 4, hv, mv] ∧ w.ownsRow 0 95 5 hv l.length (l.flatMap Hd.cells) ∧ w.ownsRow 0 3 1 mv (marksOf l).length ((marksOf l).map iv) ∧ (∀ g, hv.ownBlock = some g → P g) ∧ (∀ g, mv.ownBlock = some g → P g)
  own : P ib
theorem IdxAt.turned {w w' : World} {P Q : Nat → Prop} {ib : Nat} {l : List Hd} (h : IdxAt w P ib l) (ht : Turned Q w w') (hd : ∀ i, i < w.heap.size → P i → ¬ Q i) : IdxAt w' P ib l := by
  obtain ⟨⟨hv, mv, h1, h2, h3, h4, h5⟩, h6⟩ := h
  exact ⟨⟨hv, mv, h1.turned ht (hd _ h1.lt h6), own_turned h2 ht (fun g hg => hd g (h2.lt g hg).2 (h4 g hg)), own_turned h3 ht (fun g hg => hd g (h3.lt g hg).2 (h5 g hg)), h4, h5⟩, h6⟩
theorem IdxAt.more {w : World} {P Q : Nat → Prop} {ib : Nat} {l : List Hd} (h : IdxAt w P ib l) (hq : ∀ i, i < w.heap.size → P i → Q i) : IdxAt w Q ib l := by
  obtain ⟨⟨hv, mv, h1, h2, h3, h4, h5⟩, h6⟩ := h
  exact ⟨⟨hv, mv, h1, h2, h3, fun g hg => hq g (h2.lt g hg).2 (h4 g hg), fun g hg => hq g (h3.lt g hg).2 (h5 g hg)⟩, hq _ h1.lt h6⟩
/-- the Log behind block lb is L; its blocks are of P -/
structure LogAt (w : World) (P : Nat → Prop) (lb : Nat) (L : LogM) : Prop where
  at_ : ∃ ib, Bk w lb 81 #[.pointer (some ⟨ib, 0, none⟩), .int .i64 L.start, .int .i64 L.next] ∧ IdxAt w P ib L.heads
  own : P lb
theorem LogAt.turned {w w' : World} {P Q : Nat → Prop} {lb : Nat} {L : LogM} (h : LogAt w P lb L) (ht : Turned Q w w') (hd : ∀ i, i < w.heap.size → P i → ¬ Q i) : LogAt w' P lb L := by
  obtain ⟨⟨ib, h1, h2⟩, h3⟩ := h
  exact ⟨⟨ib, h1.turned ht (hd _ h1.lt h3), h2.turned ht hd⟩, h3⟩
theorem LogAt.more {w : World} {P Q : Nat → Prop} {lb : Nat} {L : LogM} (h : LogAt w P lb L) (hq : ∀ i, i < w.heap.size → P i → Q i) : LogAt w Q lb L := by
  obtain ⟨⟨ib, h1, h2⟩, h3⟩ := h
  exact ⟨⟨ib, h1, h2.more hq⟩, hq _ h1.lt h3⟩
/-! ### what producers sent -/
/-- an element as it stands -/
def rawElem (v : Value) : Option (DataW Value × List MemPlace) := some (.held v, [])
def SentM.val (s : SentM) : Value := .agg #[.int .i64 s.seq, .int .i64 s.base, .int .i64 s.cnt]
def noSent : SentM := ⟨0, 0, 0⟩
/-- the datum D tells what producers sent -/
def Sents (D : DataW Value) (d : DedM) : Prop := ∀ p, (∀ s, d p = some s → Maps.has D (.int .i64 p) = true ∧ ∀ z, D.atKey (.int .i64 p) z = .held s.val) ∧ (d p = none → Maps.has D (.int .i64 p) = false)
/-- numbers of what was sent -/
def DedOk (d : DedM) : Prop := ∀ p x, d p = some x → 0 ≤ x.seq ∧ x.seq ≤ 1099511627776
structure DedAt (w : World) (P : Nat → Prop) (db : Nat) (N : Nat) (d : DedM) : Prop where
  at_ : ∃ mb D, Bk w db 147 #[.map (some mb)] ∧ w.ownsMap Tryz.prog 3 rawElem mb N D ∧ Sents D d ∧ P mb
  own : P db
theorem DedAt.turned {w w' : World} {P Q : Nat → Prop} {db N : Nat} {d : DedM} (h : DedAt w P db N d) (ht : Turned Q w w') (hd : ∀ i, i < w.heap.size → P i → ¬ Q i) : DedAt w' P db N d := by
  obtain ⟨⟨mb, D, h1, h2, h3, h4⟩, h5⟩ := h
  exact ⟨⟨mb, D, h1.turned ht (hd _ h1.lt h5), map_turned h2 ht (hd _ h2.lt h4), h3, h4⟩, h5⟩
theorem DedAt.more {w : World} {P Q : Nat → Prop} {db N : Nat} {d : DedM} (h : DedAt w P db N d) (hq : ∀ i, i < w.heap.size → P i → Q i) : DedAt w Q db N d := by
  obtain ⟨⟨mb, D, h1, h2, h3, h4⟩, h5⟩ := h
  exact ⟨⟨mb, D, h1, h2, h3, hq _ h2.lt h4⟩, hq _ h1.lt h5⟩
end Go.Proofs.YtjodiieeocaipaaGreatDoor
