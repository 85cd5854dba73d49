/-
  Memory of the broker's catalogue: topics, the State.
-/
import Derived.Test.YtjodiieeocaipaaGreatDoorSMem
namespace Go.Proofs.YtjodiieeocaipaaGreatDoor
open Go.RowKit Go.Maps

/-- whose a block is -/
inductive Who where
  | top
  | grp
  | topic (n : ByteArray)
  | part (n : ByteArray) (k : Nat)
/-- a partition, and where it is -/
structure PartW where
  lb : Nat
  db : Nat
  m : PartM
def PartW.cells (p : PartW) : List Value := [.pointer (some ⟨p.lb, 0, none⟩), .pointer (some ⟨p.db, 0, none⟩)]
theorem p2 (p : PartW) : p.cells.length = 2 := rfl
/-- a topic, and where its partitions are -/
structure TopW where
  name : ByteArray
  v : Value
  ps : List PartW
def TopW.m (t : TopW) : ByteArray × List PartM := (t.name, t.ps.map PartW.m)
def TopW.ent (t : TopW) : Lit × DataW Value := (.string (namL t.name), .held t.v)
structure TopAt (w : World) (o : Nat → Option Who) (N : Nat) (t : TopW) : Prop where
  row : w.ownsRow 0 78 2 t.v t.ps.length (t.ps.flatMap PartW.cells)
  own : ∀ g, t.v.ownBlock = some g → o g = some (.topic t.name)
  few : t.ps.length ≤ 1000
  short : t.name.size ≤ 1000
  log : ∀ k p, t.ps[k]? = some p → LogAt w (fun i => o i = some (.part t.name k)) p.lb p.m.log ∧ p.m.log.Ok N
  ded : ∀ k p, t.ps[k]? = some p → DedAt w (fun i => o i = some (.part t.name k)) p.db N p.m.ded ∧ DedOk p.m.ded
/-- names stand in their order -/
def Sorted (V : List TopW) : Prop := V.Pairwise (fun a b => bytesBefore (namL a.name) (namL b.name) = true)
/-- a State, and where its parts are -/
structure StW where
  tb : Nat
  g : Nat
  gb : Nat
  V : List TopW
  grp : DataW Unit
def StW.m (S : StW) : StM := ⟨S.V.map TopW.m, S.grp⟩
/-- the State behind block s is S; o tells whose its blocks are; no log has more than N batches -/
structure StAt (w : World) (o : Nat → Option Who) (s N : Nat) (S : StW) : Prop where
  bk : Bk w s 66 #[.map (some S.tb), .pointer (some ⟨S.g, 0, none⟩)]
  map : w.ownsMap Tryz.prog 9 rawElem S.tb 1000 (.map (S.V.map TopW.ent))
  grp : Grp w S.g S.gb S.grp
  tops : ∀ t ∈ S.V, TopAt w o N t
  sorted : Sorted S.V
  own : o s = some .top ∧ o S.tb = some .top ∧ o S.g = some .grp ∧ o S.gb = some .grp
  lim : ∀ i, o i ≠ none → i < w.heap.size
  few : S.V.length ≤ 8
  marks : Maps.size S.grp ≤ 32

section
variable {w w' : World} {o o' : Nat → Option Who} {s N N' : Nat} {S : StW} {t : TopW} {Q : Nat → Prop}
theorem TopAt.turned (h : TopAt w o N t) (ht : Turned Q w w') (hd : ∀ i, i < w.heap.size → (∃ k, o i = some (.part t.name k)) ∨ o i = some (.topic t.name) → ¬ Q i) : TopAt w' o N t :=
  ⟨own_turned h.row ht (fun g hg => hd g (h.row.lt g hg).2 (.inr (h.own g hg))), h.own, h.few, h.short, fun k p hk => ⟨(h.log k p hk).1.turned ht (fun i hi hp => hd i hi (.inl ⟨k, hp⟩)), (h.log k p hk).2⟩, fun k p hk => ⟨(h.ded k p hk).1.turned ht (fun i hi hp => hd i hi (.inl ⟨k, hp⟩)), (h.ded k p hk).2⟩⟩
theorem TopAt.more (h : TopAt w o N t) (ho : ∀ i, i < w.heap.size → o' i = o i) : TopAt w o' N t :=
  ⟨h.row, fun g hg => (ho g (h.row.lt g hg).2).trans (h.own g hg), h.few, h.short, fun k p hk => ⟨(h.log k p hk).1.more (fun i hi hp => (ho i hi).trans hp), (h.log k p hk).2⟩, fun k p hk => ⟨(h.ded k p hk).1.more (fun i hi hp => (ho i hi).trans hp), (h.ded k p hk).2⟩⟩
theorem DedAt.mono {P : Nat → Prop} {db : Nat} {d : DedM} (h : DedAt w P db N d) (hN : N ≤ N') : DedAt w P db N' d := by
  obtain ⟨⟨mb, D, h1, h2, h3, h4⟩, h5⟩ := h
  exact ⟨⟨mb, D, h1, h2.mono hN, h3, h4⟩, h5⟩
theorem TopAt.mono (h : TopAt w o N t) (hN : N ≤ N') : TopAt w o N' t :=
  ⟨h.row, h.own, h.few, h.short, fun k p hk => ⟨(h.log k p hk).1, (h.log k p hk).2.mono hN⟩, fun k p hk => ⟨(h.ded k p hk).1.mono hN, (h.ded k p hk).2⟩⟩
theorem Grp.turned {g b : Nat} {D : DataW Unit} (h : Grp w g b D) (ht : Turned Q w w') (hg : ¬ Q g) (hb : ¬ Q b) : Grp w' g b D := ⟨h.bk.turned ht hg, h.ne, map_turned h.own ht hb⟩
/-- others' blocks turned -/
theorem StAt.turned (h : StAt w o s N S) (ht : Turned Q w w') (hd : ∀ i, i < w.heap.size → o i ≠ none → ¬ Q i) : StAt w' o s N S := by
  have hx : ∀ {i : Nat} {x : Who}, i < w.heap.size → o i = some x → ¬ Q i := fun hi e => hd _ hi (by rw [e]; simp)
  exact ⟨h.bk.turned ht (hx h.bk.lt h.own.1), map_turned h.map ht (hx h.map.lt h.own.2.1), h.grp.turned ht (hx h.grp.bk.lt h.own.2.2.1) (hx h.grp.own.lt h.own.2.2.2), fun t hm => (h.tops t hm).turned ht (fun i hi hp => by
    rcases hp with ⟨k, hp⟩ | hp
    · exact hx hi hp
    · exact hx hi hp), h.sorted, h.own, fun i hi => Nat.lt_of_lt_of_le (h.lim i hi) ht.size, h.few, h.marks⟩
theorem StAt.ext (h : StAt w o s N S) (hb : Below w.heap.size w w') : StAt w' o s N S := h.turned (Q := fun _ => False) (Turned.of_below hb) (fun _ _ _ => id)
theorem StAt.mono (h : StAt w o s N S) (hN : N ≤ N') : StAt w o s N' S := ⟨h.bk, h.map, h.grp, fun t hm => (h.tops t hm).mono hN, h.sorted, h.own, h.lim, h.few, h.marks⟩
end

/-! ### names, and what the map of topics reads as -/
theorem namL_inj {a b : ByteArray} (h : namL a = namL b) : a = b := by
  unfold namL at h
  cases a; cases b
  congr
  exact Array.ext' h
theorem bb_irr : ∀ l : List UInt8, bytesBefore l l = false
  | [] => rfl
  | a :: r => by
    show (decide (a < a) || (a == a && bytesBefore r r)) = false
    rw [bb_irr r]
    simp
theorem ent_same (t : TopW) (n : ByteArray) : (t.ent.1).sameKey (.string (namL n)) = decide (t.name = n) := by
  show (namL t.name == namL n) = _
  by_cases h : t.name = n
  · subst h; simp
  · have : namL t.name ≠ namL n := fun e => h (namL_inj e)
    simp [h, this]
theorem find_ent (V : List TopW) (n : ByteArray) : (V.map TopW.ent).find? (fun p => p.1.sameKey (.string (namL n))) = (V.find? (fun t => decide (t.name = n))).map TopW.ent := by
  induction V with
  | nil => rfl
  | cons t r ih =>
    rw [List.map_cons, List.find?_cons, List.find?_cons, ent_same]
    cases decide (t.name = n)
    · exact ih
    · rfl
theorem has_ent (V : List TopW) (n : ByteArray) : Maps.has (.map (V.map TopW.ent) : DataW Value) (.string (namL n)) = V.any (fun t => decide (t.name = n)) := by
  rw [Maps.has_eq, List.any_map]
  congr 1
  funext t
  exact ent_same t n
theorem at_ent (V : List TopW) (n : ByteArray) (z : DataW Value) : (DataW.map (V.map TopW.ent)).atKey (.string (namL n)) z = (match V.find? (fun t => decide (t.name = n)) with | some t => .held t.v | none => z) := by
  unfold DataW.atKey
  dsimp only
  rw [find_ent]
  cases V.find? (fun t => decide (t.name = n)) <;> rfl
theorem has_m (V : List TopW) (n : ByteArray) : hasT (V.map TopW.m) n = V.any (fun t => decide (t.name = n)) := by
  unfold hasT
  rw [List.any_map]
  rfl
theorem find_m (V : List TopW) (n : ByteArray) : findT (V.map TopW.m) n = (V.find? (fun t => decide (t.name = n))).map (fun t => t.ps.map PartW.m) := by
  unfold findT
  rw [List.find?_map, Option.map_map]
  rfl
def insW (x : TopW) : List TopW → List TopW
  | [] => [x]
  | y :: r => if bytesBefore (namL x.name) (namL y.name) then x :: y :: r else y :: insW x r
theorem ins_ent (x : TopW) : ∀ V : List TopW, DataW.insert x.ent (V.map TopW.ent) = (insW x V).map TopW.ent
  | [] => rfl
  | y :: r => by
    show (if bytesBefore (namL x.name) (namL y.name) then x.ent :: y.ent :: r.map TopW.ent else y.ent :: DataW.insert x.ent (r.map TopW.ent)) = (if bytesBefore (namL x.name) (namL y.name) then x :: y :: r else y :: insW x r).map TopW.ent
    rw [ins_ent x r]
    split <;> rfl
theorem ins_m (x : TopW) : ∀ V : List TopW, insT x.m (V.map TopW.m) = (insW x V).map TopW.m
  | [] => rfl
  | y :: r => by
    show (if bytesBefore (namL x.name) (namL y.name) then x.m :: y.m :: r.map TopW.m else y.m :: insT x.m (r.map TopW.m)) = (if bytesBefore (namL x.name) (namL y.name) then x :: y :: r else y :: insW x r).map TopW.m
    rw [ins_m x r]
    split <;> rfl
theorem mem_ins {x t : TopW} : ∀ {V : List TopW}, t ∈ insW x V ↔ t = x ∨ t ∈ V
  | [] => by simp [insW]
  | y :: r => by
    unfold insW
    split
    · simp
    · simp only [List.mem_cons, mem_ins (V := r)]
      constructor
      · rintro (h | h | h)
        · exact .inr (.inl h)
        · exact .inl h
        · exact .inr (.inr h)
      · rintro (h | h | h)
        · exact .inr (.inl h)
        · exact .inl h
        · exact .inr (.inr h)
theorem len_ins (x : TopW) : ∀ V : List TopW, (insW x V).length = V.length + 1
  | [] => rfl
  | y :: r => by
    unfold insW
    split
    · rfl
    · simp [len_ins x r]
theorem bb_trans : ∀ {a b c : List UInt8}, bytesBefore a b = true → bytesBefore b c = true → bytesBefore a c = true
  | [], [], _, h, _ => by cases h
  | [], _ :: _, [], _, h => by cases h
  | [], _ :: _, _ :: _, _, _ => rfl
  | _ :: _, [], _, h, _ => by cases h
  | _ :: _, _ :: _, [], _, h => by cases h
  | x :: a, y :: b, z :: c, h1, h2 => by
    change (decide (x < y) || (x == y && bytesBefore a b)) = true at h1
    change (decide (y < z) || (y == z && bytesBefore b c)) = true at h2
    show (decide (x < z) || (x == z && bytesBefore a c)) = true
    simp only [Bool.or_eq_true, Bool.and_eq_true, decide_eq_true_eq, beq_iff_eq] at h1 h2 ⊢
    rcases h1 with h1 | ⟨rfl, h1⟩
    · rcases h2 with h2 | ⟨rfl, _⟩
      · exact .inl (UInt8.lt_trans h1 h2)
      · exact .inl h1
    · rcases h2 with h2 | ⟨rfl, h2⟩
      · exact .inl h2
      · exact .inr ⟨rfl, bb_trans h1 h2⟩
theorem bb_tri : ∀ (a b : List UInt8), a = b ∨ bytesBefore a b = true ∨ bytesBefore b a = true
  | [], [] => .inl rfl
  | [], _ :: _ => .inr (.inl rfl)
  | _ :: _, [] => .inr (.inr rfl)
  | x :: a, y :: b => by
    show _ ∨ (decide (x < y) || (x == y && bytesBefore a b)) = true ∨ (decide (y < x) || (y == x && bytesBefore b a)) = true
    simp only [Bool.or_eq_true, Bool.and_eq_true, decide_eq_true_eq, beq_iff_eq]
    rcases Nat.lt_trichotomy x.toNat y.toNat with h | h | h
    · exact .inr (.inl (.inl h))
    · have h : x = y := UInt8.toNat_inj.1 h
      subst h
      rcases bb_tri a b with h | h | h
      · exact .inl (by rw [h])
      · exact .inr (.inl (.inr ⟨rfl, h⟩))
      · exact .inr (.inr (.inr ⟨rfl, h⟩))
    · exact .inr (.inr (.inl h))
theorem sorted_ins {x : TopW} : ∀ {V : List TopW}, Sorted V → (∀ t ∈ V, t.name ≠ x.name) → Sorted (insW x V)
  | [], _, _ => List.pairwise_singleton _ _
  | y :: r, h, hn => by
    obtain ⟨h1, h2⟩ := List.pairwise_cons.1 h
    unfold insW
    split
    · rename_i hb
      refine List.pairwise_cons.2 ⟨fun t ht => ?_, h⟩
      rcases List.mem_cons.1 ht with rfl | ht
      · exact hb
      · exact bb_trans hb (h1 t ht)
    · rename_i hb
      refine List.pairwise_cons.2 ⟨fun t ht => ?_, sorted_ins h2 (fun t ht => hn t (List.mem_cons_of_mem _ ht))⟩
      rcases mem_ins.1 ht with rfl | ht
      · rcases bb_tri (namL y.name) (namL t.name) with e | e | e
        · exact absurd (namL_inj e) (hn y (List.mem_cons_self ..))
        · exact e
        · exact absurd e hb
      · exact h1 t ht
theorem sorted_names {V : List TopW} (h : Sorted V) {t u : TopW} (ht : t ∈ V) (hu : u ∈ V) (hn : t.name = u.name) : t = u := by
  induction V with
  | nil => cases ht
  | cons y r ih =>
    obtain ⟨h1, h2⟩ := List.pairwise_cons.1 h
    rcases List.mem_cons.1 ht with rfl | ht'
    · rcases List.mem_cons.1 hu with rfl | hu'
      · rfl
      · have := h1 u hu'
        rw [hn, bb_irr] at this
        cases this
    · rcases List.mem_cons.1 hu with rfl | hu'
      · have := h1 t ht'
        rw [hn, bb_irr] at this
        cases this
      · exact ih h2 ht' hu'
end Go.Proofs.YtjodiieeocaipaaGreatDoor
