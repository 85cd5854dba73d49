import Derived.Test.YtjodiieeocaipaaGreatDoorSParts
import Derived.Maps.AppendAt
import Derived.Test.YtjodiieeocaipaaGreatDoorSProd
import Derived.StillTailTactics
/-
  state.create: a topic's partitions, one after the other; the map with it.
-/
namespace Go.Proofs.YtjodiieeocaipaaGreatDoor
open Go.RowKit Go.Maps

/-- i new partitions of the topic n stand in the row v; all of it came since w0 -/
def MadeAt (w0 w : World) (first : Int) (n : ByteArray) (i : Nat) (v : Value) : Prop :=
  ∃ (q : Nat → Option Who) (ps : List PartW), ps.length = i ∧ w.ownsRow w0.heap.size 78 2 v i (ps.flatMap PartW.cells) ∧ (∀ g, v.ownBlock = some g → q g = some (.topic n)) ∧
    (∀ k p, ps[k]? = some p → p.m = newPart first ∧ LogAt w (fun j => q j = some (.part n k)) p.lb (newLog first) ∧ DedAt w (fun j => q j = some (.part n k)) p.db 0 (fun _ => none)) ∧
    (∀ j, q j ≠ none → w0.heap.size ≤ j ∧ j < w.heap.size) ∧ Below w0.heap.size w0 w
theorem MadeAt.start {w0 w : World} (first : Int) (n : ByteArray) (hb : Below w0.heap.size w0 w) : MadeAt w0 w first n 0 (.slice none 0 0) :=
  ⟨fun _ => none, [], rfl, World.ownsRow_nil _ _ _ _, fun g e => (by cases e), fun k p e => (by cases e), fun j e => absurd rfl e, hb⟩
theorem MadeAt.row {w0 w : World} {first : Int} {n : ByteArray} {i : Nat} {v : Value} (h : MadeAt w0 w first n i v) : ∃ ps : List PartW, w.ownsRow w0.heap.size 78 2 v i (ps.flatMap PartW.cells) := by
  obtain ⟨q, ps, h1, h2, _⟩ := h
  exact ⟨ps, h2⟩
theorem MadeAt.below {w0 w : World} {first : Int} {n : ByteArray} {i : Nat} {v : Value} (h : MadeAt w0 w first n i v) : Below w0.heap.size w0 w := by
  obtain ⟨q, ps, h1, h2, h3, h4, h5, h6⟩ := h
  exact h6
/-- what came of one round: the row is the round's own thing, the rest stands -/
theorem MadeAt.step {w0 w w1 w2 w3 w4 : World} {first : Int} {n : ByteArray} {i : Nat} {v v' : Value} (h : MadeAt w0 w first n i v) {lb db : Nat}
    (hl : LogAt w1 (fun j => w.heap.size ≤ j) lb (newLog first)) (hb1 : Below w.heap.size w w1) (hd : DedAt w2 (fun j => w1.heap.size ≤ j) db 0 (fun _ => none)) (hb2 : Below w1.heap.size w1 w2) (hb3 : Below w2.heap.size w2 w3)
    (hrow : ∀ ps : List PartW, w.ownsRow w0.heap.size 78 2 v i (ps.flatMap PartW.cells) → w4.ownsRow w0.heap.size 78 2 v' (i + 1) (ps.flatMap PartW.cells ++ [.pointer (some ⟨lb, 0, none⟩), .pointer (some ⟨db, 0, none⟩)]))
    (hg : w3.grownBy w4 v.ownBlock) (ho : v'.ownBlock = v.ownBlock ∨ v'.ownBlock = some w3.heap.size) : MadeAt w0 w4 first n (i + 1) v' := by
  obtain ⟨q, ps, h1, h2, h3, h4, h5, h6⟩ := h
  have s1 := hb1.size
  have s2 := hb2.size
  have s3 := hb3.size
  have s4 := hg.size
  have hrow' := hrow ps h2
  have hvlt : ∀ g, v.ownBlock = some g → g < w.heap.size := fun g e => (World.ownsRow.lt h2 g e).2
  have hT2 : Turned (fun _ => False) w1 w2 := Turned.of_below hb2
  have hT13 : Below w.heap.size w w3 := (hb1.trans (below_le s1 hb2)).trans (below_le (by omega) hb3)
  have hT3 : Turned (fun j => v.ownBlock = some j) w w4 := (Turned.of_below hT13).then_grown hg (fun k e => .inl e)
  have hT14 : Turned (fun j => v.ownBlock = some j) w1 w4 := ((Turned.of_below (hb2.trans (below_le s2 hb3))).then_grown hg (fun k e => .inl e))
  have hT24 : Turned (fun j => v.ownBlock = some j) w2 w4 := ((Turned.of_below hb3).then_grown hg (fun k e => .inl e))
  have hq : ∀ j, q j ≠ none → (if w.heap.size ≤ j ∧ j < w2.heap.size then some (Who.part n i) else if w2.heap.size ≤ j ∧ j < w4.heap.size then some (Who.topic n) else q j) = q j := fun j hj => by
    have := h5 j hj
    rw [if_neg (by omega), if_neg (by omega)]
  refine ⟨fun j => if w.heap.size ≤ j ∧ j < w2.heap.size then some (.part n i) else if w2.heap.size ≤ j ∧ j < w4.heap.size then some (.topic n) else q j, ps ++ [⟨lb, db, newPart first⟩], by simp [h1], ?_, fun g e => ?_, fun k p hk => ?_, fun j hj => ?_, ?_⟩
  · rw [List.flatMap_append]
    exact hrow'
  · have hlt := (World.ownsRow.lt hrow' g e).2
    rcases ho with ho | ho
    · rw [ho] at e
      show (if _ then _ else _) = _
      rw [hq g (by rw [h3 g e]; simp)]
      exact h3 g e
    · rw [ho] at e
      obtain rfl := Option.some.inj e
      show (if _ then _ else _) = _
      rw [if_neg (by omega), if_pos (by omega)]
  · by_cases hki : k < i
    · rw [List.getElem?_append_left (by omega)] at hk
      obtain ⟨a1, a2, a3⟩ := h4 k p hk
      have hno : ∀ j, j < w.heap.size → q j = some (.part n k) → ¬ v.ownBlock = some j := fun j _ e e2 => by
        rw [h3 j e2] at e
        cases e
      refine ⟨a1, (a2.turned hT3 hno).more (fun j _ hj => ?_), (a3.turned hT3 hno).more (fun j _ hj => ?_)⟩
      · exact (hq j (by rw [hj]; simp)).trans hj
      · exact (hq j (by rw [hj]; simp)).trans hj
    · have hlt := (List.getElem?_eq_some_iff.1 hk).1
      simp only [List.length_append, List.length_singleton] at hlt
      obtain rfl : k = i := by omega
      rw [List.getElem?_append_right (by omega), h1, Nat.sub_self] at hk
      cases hk
      refine ⟨rfl, ?_, ?_⟩
      · have hl' : LogAt w1 (fun j => w.heap.size ≤ j ∧ j < w1.heap.size) lb (newLog first) := hl.more (fun j hj hp => ⟨hp, hj⟩)
        refine (hl'.turned hT14 (fun j _ hj e => ?_)).more (fun j _ hj => ?_)
        · have := hvlt j e
          omega
        · show (if _ then _ else _) = _
          rw [if_pos (by omega)]
      · have hd' : DedAt w2 (fun j => w1.heap.size ≤ j ∧ j < w2.heap.size) db 0 (fun _ => none) := hd.more (fun j hj hp => ⟨hp, hj⟩)
        refine (hd'.turned hT24 (fun j _ hj e => ?_)).more (fun j _ hj => ?_)
        · have := hvlt j e
          omega
        · show (if _ then _ else _) = _
          rw [if_pos (by omega)]
  · have s0 := h6.size
    replace hj : (if w.heap.size ≤ j ∧ j < w2.heap.size then some (Who.part n i) else if w2.heap.size ≤ j ∧ j < w4.heap.size then some (Who.topic n) else q j) ≠ none := hj
    by_cases c1 : w.heap.size ≤ j ∧ j < w2.heap.size
    · omega
    · rw [if_neg c1] at hj
      by_cases c2 : w2.heap.size ≤ j ∧ j < w4.heap.size
      · omega
      · rw [if_neg c2] at hj
        have := h5 j hj
        omega
  · exact hT3.below h6 h6.size (fun j e => (World.ownsRow.lt h2 j e).1)

theorem own_tightS {w : World} {b n : Nat} {D : DataW Value} (h : w.ownsMap Tryz.prog 9 rawElem b n D) : w.ownsMap Tryz.prog 9 rawElem b (Maps.size D) D := by
  obtain ⟨es, clock, h1, h2, h3, rfl⟩ := h
  exact ⟨es, clock, h1, h2, by rw [Maps.size_eq, length_read]; exact Nat.le_refl _, rfl⟩
theorem put_ent (V : List TopW) (t : TopW) (h : hasT (V.map TopW.m) t.name = false) : (DataW.map (V.map TopW.ent)).put (.string (namL t.name)) (.held t.v) = .map ((insW t V).map TopW.ent) := by
  have hf : (V.map TopW.ent).filter (fun p => !p.1.sameKey (.string (namL t.name))) = V.map TopW.ent := by
    rw [List.filter_eq_self]
    intro x hx
    obtain ⟨u, hu, rfl⟩ := List.mem_map.1 hx
    rw [ent_same]
    rw [has_m] at h
    have := (List.any_eq_false.1 h) u hu
    simpa using this
  show DataW.map (DataW.insert (_, _) (List.filter _ _)) = _
  rw [hf]
  exact congrArg DataW.map (ins_ent t V)
/-- what an entry leaves behind -/
structure Left (w w' : World) (o : Nat → Option Who) (s N : Nat) (M : StM) : Prop where
  at_ : ∃ (o' : Nat → Option Who) (S' : StW), StAt w' o' s N S' ∧ S'.m = M ∧ ∀ i, i < w.heap.size → o' i = o i
  turned : Turned (fun i => o i ≠ none) w w'
theorem Left.still {w w' : World} {o : Nat → Option Who} {s N : Nat} {S : StW} (h : StAt w o s N S) (hb : Below w.heap.size w w') : Left w w' o s (N + 1) S.m :=
  ⟨⟨o, S, (h.ext hb).mono (Nat.le_succ N), rfl, fun _ _ => rfl⟩, Turned.of_below hb⟩
/-- the map takes the topic in -/
theorem StAt.make {o : Nat → Option Who} {s N : Nat} {S : StW} {w w4 w5 : World} (h : StAt w o s N S) {first : Int} (hf : 0 ≤ first ∧ first ≤ maxI) {n : ByteArray} (hn : n.size ≤ 1000) {i : Nat} (hi : i ≤ 1000) {v : Value} (hm : MadeAt w w4 first n i v)
    (ho : w5.ownsMap Tryz.prog 9 rawElem S.tb 1001 ((DataW.map (S.V.map TopW.ent)).put (.string (namL n)) (.held v))) (hg : w4.grownBy w5 (some S.tb)) (hno : hasT S.m.top n = false) (h8 : S.V.length < 8) :
    Left w w5 o s (N + 1) ⟨insT (n, List.replicate i (newPart first)) S.m.top, S.grp⟩ := by
  obtain ⟨q, ps, h1, h2, h3, h4, h5, h6⟩ := hm
  have htb : S.tb < w.heap.size := h.lim _ (by rw [h.own.2.1]; simp)
  have hT5 : Turned (fun j => j = S.tb) w4 w5 := Turned.of_grown hg (fun k e => (Option.some.inj e).symm)
  have hT : Turned (fun j => j = S.tb) w w5 := (Turned.of_below h6).then_grown hg (fun k e => .inl (Option.some.inj e).symm)
  have hq : ∀ j, j < w.heap.size → q j = none := fun j hj => by
    cases e : q j with
    | none => rfl
    | some x => have := h5 j (by rw [e]; simp); omega
  have hqn : ∀ j x, q j = some x → ¬ j = S.tb := fun j x e e2 => by
    have := h5 j (by rw [e]; simp)
    omega
  have hoq : ∀ j, j < w.heap.size → (if q j = none then o j else q j) = o j := fun j hj => by rw [if_pos (hq j hj)]
  have hps : ps.map PartW.m = List.replicate i (newPart first) := by
    apply List.ext_getElem?
    intro k
    rw [List.getElem?_map, List.getElem?_replicate]
    split
    · rename_i hk
      obtain ⟨p, hp⟩ : ∃ p, ps[k]? = some p := ⟨ps[k]'(by omega), List.getElem?_eq_getElem _⟩
      rw [hp]
      exact congrArg some (h4 k p hp).1
    · rw [List.getElem?_eq_none (by omega)]
      rfl
  have hnew : TopAt w5 (fun j => if q j = none then o j else q j) (N + 1) ⟨n, v, ps⟩ := by
    have hpick : ∀ j x, q j = some x → (if q j = none then o j else q j) = some x := fun j x e => by rw [if_neg (by rw [e]; simp), e]
    refine ⟨?_, fun g e => hpick _ _ (h3 g e), by show ps.length ≤ 1000; omega, hn, fun k p hk => ?_, fun k p hk => ?_⟩
    · have := own_turned h2 hT5 (fun g e => hqn g _ (h3 g e))
      show w5.ownsRow 0 _ 2 v ps.length _
      rw [h1]
      refine ⟨this.1, ?_⟩
      rcases this.2 with h | ⟨g, cap, cur, a1, _, a3⟩
      · exact .inl h
      · exact .inr ⟨g, cap, cur, a1, Nat.zero_le _, a3⟩
    · obtain ⟨a1, a2, a3⟩ := h4 k p hk
      refine ⟨?_, ?_⟩
      · rw [a1]
        exact (a2.turned hT5 (fun j _ e => hqn j _ e)).more (fun j _ e => hpick j _ e)
      · rw [a1]
        exact (newLog_ok hf.1 hf.2).mono (Nat.zero_le _)
    · obtain ⟨a1, a2, a3⟩ := h4 k p hk
      refine ⟨?_, ?_⟩
      · rw [a1]
        exact ((a3.turned hT5 (fun j _ e => hqn j _ e)).more (fun j _ e => hpick j _ e)).mono (Nat.zero_le _)
      · rw [a1]
        exact fun p x e => by cases e
  have hne : ∀ {j : Nat} {x : Who}, o j = some x → x ≠ .top → ¬ j = S.tb := fun e hx e2 => by
    subst e2
    rw [h.own.2.1] at e
    exact hx (Option.some.inj e).symm
  have hx : ∀ {i : Nat} {x : Who}, o i = some x → i < w.heap.size := fun e => h.lim _ (by rw [e]; simp)
  have hsne : ¬ s = S.tb := fun e => by
    have hb := h.bk
    obtain ⟨es, clock, hm, _⟩ := h.map
    rw [← e] at hm
    unfold Bk at hb
    rw [hb] at hm
    cases hm
  refine ⟨⟨fun j => if q j = none then o j else q j, ⟨S.tb, S.g, S.gb, insW ⟨n, v, ps⟩ S.V, S.grp⟩, ⟨h.bk.turned hT hsne, ?_, h.grp.turned hT (hne h.own.2.2.1 (by simp)) (hne h.own.2.2.2 (by simp)), fun t ht => ?_, ?_, ?_, fun j hj => ?_, ?_, h.marks⟩, ?_, hoq⟩, ?_⟩
  · show w5.ownsMap _ _ _ _ 1000 (.map ((insW ⟨n, v, ps⟩ S.V).map TopW.ent))
    rw [← put_ent S.V ⟨n, v, ps⟩ hno]
    refine (own_tightS ho).mono ?_
    rw [put_ent S.V ⟨n, v, ps⟩ hno, Maps.size_eq, List.length_map, len_ins]
    omega
  · rcases mem_ins.1 ht with rfl | ht
    · exact hnew
    · exact (((h.tops t ht).more hoq).turned hT (fun j hjw hj => by
        rw [hoq j hjw] at hj
        rcases hj with ⟨k, hj⟩ | hj
        · exact hne hj (by simp)
        · exact hne hj (by simp))).mono (Nat.le_succ N)
  · refine sorted_ins h.sorted (fun t ht e => ?_)
    rw [show S.m.top = S.V.map TopW.m from rfl, has_m] at hno
    have := (List.any_eq_false.1 hno) t ht
    simp [e] at this
  · exact ⟨(hoq _ (hx h.own.1)).trans h.own.1, (hoq _ htb).trans h.own.2.1, (hoq _ (hx h.own.2.2.1)).trans h.own.2.2.1, (hoq _ (hx h.own.2.2.2)).trans h.own.2.2.2⟩
  · replace hj : (if q j = none then o j else q j) ≠ none := hj
    have s6 := h6.size
    have s7 := hg.size
    by_cases hqj : q j = none
    · rw [if_pos hqj] at hj
      have := h.lim j hj
      omega
    · have := (h5 j hqj).2
      omega
  · show (insW ⟨n, v, ps⟩ S.V).length ≤ 8
    rw [len_ins]
    omega
  · show (⟨(insW ⟨n, v, ps⟩ S.V).map TopW.m, S.grp⟩ : StM) = _
    rw [← ins_m]
    show (⟨insT (n, ps.map PartW.m) _, _⟩ : StM) = _
    rw [hps]
    rfl
  · exact hT.more (fun j _ e => by rw [e, h.own.2.1]; simp)
end Go.Proofs.YtjodiieeocaipaaGreatDoor

/-
  state.create: the walk.
-/
namespace Go.Proofs.YtjodiieeocaipaaGreatDoor
open Go.RowKit Go.Maps

/-- state.create -/
def creM (M : StM) (e : Ent) : StM × Int :=
  if hasT M.top e.topic then (M, 9) else if 8 ≤ M.top.length then (M, 8) else (⟨insT (e.topic, List.replicate e.parts.toNat (newPart e.first)) M.top, M.grp⟩, 0)
def entA (e : Ent) (A : Option Addr) (n c : Nat) : Array Value := #[.int .i64 e.kind, .string e.topic, .string e.group, .int .i64 e.part, .int .i64 e.parts, .int .i64 e.first, .int .i64 e.off, .int .i64 e.bat.time, .int .i64 e.bat.prod, .int .i64 e.bat.seq, .slice A n c]
theorem info_part : (Tryz.prog.info? 78).map (fun i => (i.zero, i.size, i.bytes)) = some (some (.agg #[.pointer none, .pointer none]), 2, 16) := by kernel_rfl
theorem errV_no (k : Int) (hk : k ≠ 0) : ErrV (noV k) k := .inr ⟨hk, 0, Nat.zero_le _, .no k⟩
theorem lenM (S : StW) : S.m.top.length = S.V.length := List.length_map _
theorem one_p (p : PartW) : ∀ u ∈ p.cells, u.oneCell' = true := by
  intro u hu
  simp only [PartW.cells, List.mem_cons, List.mem_nil_iff, or_false] at hu
  rcases hu with rfl | rfl <;> rfl
theorem own_extB {w w' : World} {B : Nat} {t : TypeId} {sz n : Nat} {v : Value} {xs : List Value} (h : w.ownsRow B t sz v n xs) (hb : Below w.heap.size w w') : w'.ownsRow B t sz v n xs := own_turned (P := fun _ => False) h (Turned.of_below hb) (fun _ _ => id)
theorem own_uniq {w : World} {B1 B2 : Nat} {t : TypeId} {sz n : Nat} {v : Value} {xs ys : List Value} (h1 : w.ownsRow B1 t sz v n xs) (h2 : w.ownsRow B2 t sz v n ys) : xs = ys := by
  rcases h1.2 with ⟨rfl, h0⟩ | ⟨g, cap, cur, rfl, _, hg, _, _, _, ht⟩
  · have e1 := h1.1
    have e2 := h2.1
    subst h0
    rw [Nat.zero_mul] at e1 e2
    rw [List.eq_nil_of_length_eq_zero e1, List.eq_nil_of_length_eq_zero e2]
  · rcases h2.2 with ⟨hv, _⟩ | ⟨g2, cap2, cur2, hv, _, hg2, _, _, _, ht2⟩
    · cases hv
    · injection hv with e1 e2 e3
      injection e1 with e1
      injection e1 with e1
      subst e1
      rw [hg] at hg2
      injection hg2 with hg2
      injection hg2 with hg2
      subst hg2
      exact ht.symm.trans ht2
theorem look_some {w : World} {tb k : Nat} {V : List TopW} (ho : w.ownsMap Tryz.prog 9 rawElem tb k (.map (V.map TopW.ent))) (n : ByteArray) (hn : n.size ≤ maxLen) :
    ∃ v, (Instr.lookup 62 (.map (some tb)) (.string n) true).run Tryz.prog w = .ok (.tuple #[v, .bool (hasT (V.map TopW.m) n)]) w := ⟨_, topics_look_ok ho n hn⟩
theorem Left.from {w W w' : World} {o : Nat → Option Who} {s N : Nat} {M : StM} (h : Left W w' o s N M) (hb : Below w.heap.size w W) : Left w w' o s N M := by
  obtain ⟨⟨o', S', h1, h2, h3⟩, h4⟩ := h
  exact ⟨⟨o', S', h1, h2, fun i hi => h3 i (Nat.lt_of_lt_of_le hi hb.size)⟩, (Turned.of_below hb).trans h4 (fun _ _ h => h)⟩
set_option maxRecDepth 100000 in
set_option maxHeartbeats 4000000 in
theorem create_any {o : Nat → Option Who} {s N : Nat} {S : StW} {w : World} (h : StAt w o s N S) (e : Ent) (A : Option Addr) (n c : Nat) (hn : e.topic.size ≤ 1000) (hp : 0 ≤ e.parts ∧ e.parts ≤ 1000) (hf : 0 ≤ e.first ∧ e.first ≤ maxI) :
    Calls Tryz.prog 50 #[.pointer (some ⟨s, 0, none⟩), .agg #[.int .i64 e.kind, .string e.topic, .string e.group, .int .i64 e.part, .int .i64 e.parts, .int .i64 e.first, .int .i64 e.off, .int .i64 e.bat.time, .int .i64 e.bat.prod, .int .i64 e.bat.seq, .slice A n c]] w
      fun er w' => ∃ v, er = .returned v ∧ ErrV v (creM S.m e).2 ∧ Left w w' o s (N + 1) (creM S.m e).1 := by
  have hb0 := below_new w (.cells #[.int .i64 e.kind, .string e.topic, .string e.group, .int .i64 e.part, .int .i64 e.parts, .int .i64 e.first, .int .i64 e.off, .int .i64 e.bat.time, .int .i64 e.bat.prod, .int .i64 e.bat.seq, .slice A n c] 34)
  have hk0 := Bk.made w 34 #[.int .i64 e.kind, .string e.topic, .string e.group, .int .i64 e.part, .int .i64 e.parts, .int .i64 e.first, .int .i64 e.off, .int .i64 e.bat.time, .int .i64 e.bat.prod, .int .i64 e.bat.seq, .slice A n c]
  have HB0 := Lib.hid hb0
  have HK0 := Lib.hid hk0
  have HS := Lib.hid h
  have hS1 := h.ext hb0
  have c0 : (w.alloc (.cells #[.int .i64 e.kind, .string e.topic, .string e.group, .int .i64 e.part, .int .i64 e.parts, .int .i64 e.first, .int .i64 e.off, .int .i64 e.bat.time, .int .i64 e.bat.prod, .int .i64 e.bat.seq, .slice A n c] 34)).cell? ⟨s, 0, none⟩ = some (.map (some S.tb)) := hS1.bk.cell 0
  have c1 : (w.alloc (.cells #[.int .i64 e.kind, .string e.topic, .string e.group, .int .i64 e.part, .int .i64 e.parts, .int .i64 e.first, .int .i64 e.off, .int .i64 e.bat.time, .int .i64 e.bat.prod, .int .i64 e.bat.seq, .slice A n c] 34)).cell? ⟨w.heap.size, 1, none⟩ = some (.string e.topic) := hk0.cell 1
  have HM1 := Lib.hid hS1.map
  clear h hb0 hk0 hS1
  go_enter Tryz.func50, Tryz.ntmps50
  go_upto_region 1 with fail
  generalize w.alloc (.cells #[.int .i64 e.kind, .string e.topic, .string e.group, .int .i64 e.part, .int .i64 e.parts, .int .i64 e.first, .int .i64 e.off, .int .i64 e.bat.time, .int .i64 e.bat.prod, .int .i64 e.bat.seq, .slice A n c] 34) = W at HB0 HK0 c0 c1 HM1 ⊢
  have hM1 : W.drew.ownsMap Tryz.prog 9 rawElem S.tb 1000 (.map (S.V.map TopW.ent)) := HM1.out
  obtain ⟨vx, hlk⟩ := look_some hM1 e.topic (by unfold maxLen; omega)
  have hlen := hM1.len Tryz.underlying62 3
  rw [show Maps.size (DataW.map (S.V.map TopW.ent)) = S.V.length by rw [Maps.size_eq, List.length_map]] at hlen
  have c02 : W.drew.cell? ⟨s, 0, none⟩ = some (.map (some S.tb)) := c0
  obtain ⟨bx, hbx⟩ : ∃ bx, hasT (S.V.map TopW.m) e.topic = bx := ⟨_, rfl⟩
  rw [hbx] at hlk
  have Hbx := Lib.hid hbx
  clear hbx hM1
  go_region
  cases bx with
  | true =>
    go_wp2_with fail
    go_ret
    have hc : creM S.m e = (S.m, 9) := by
      unfold creM
      rw [show hasT S.m.top e.topic = true from Hbx.out, if_pos rfl]
    rw [hc]
    exact ⟨_, rfl, errV_no 9 (by decide), Left.still HS.out (below_drew1 HB0.out)⟩
  | false =>
    by_cases h8 : 8 ≤ S.V.length
    · have q8 : (8 : Int) ≤ (S.V.length : Int) := by omega
      go_wp2_with fail
      go_ret
      have hc : creM S.m e = (S.m, 8) := by
        unfold creM
        rw [show hasT S.m.top e.topic = false from Hbx.out, if_neg (by decide), if_pos (by rw [lenM]; exact h8)]
      rw [hc]
      exact ⟨_, rfl, errV_no 8 (by decide), Left.still HS.out (below_drew1 HB0.out)⟩
    · have q8 : ¬ (8 : Int) ≤ (S.V.length : Int) := by omega
      have hc : creM S.m e = (⟨insT (e.topic, List.replicate e.parts.toNat (newPart e.first)) S.m.top, S.grp⟩, 0) := by
        unfold creM
        rw [show hasT S.m.top e.topic = false from Hbx.out, if_neg (by decide), if_neg (by rw [lenM]; exact h8)]
        rfl
      have HC := Lib.hid hc
      have c4 : W.drew.cell? ⟨w.heap.size, 4, none⟩ = some (.int .i64 e.parts) := HK0.out.cell 4
      have H8 := Lib.hid h8
      obtain ⟨ii, hi0, hz0, hs0, hy0⟩ := info_parts info_part
      have HI := Lib.hid hi0
      have HZ := Lib.hid hz0
      have HSz := Lib.hid hs0
      have HY := Lib.hid hy0
      clear hc h8 hlk hi0 hz0 hs0 hy0
      go_wp2_with fail
      go_loopw [7, 33] (fun v i wr => ∃ k : Nat, k ≤ e.parts.toNat ∧ i = .int .i64 k ∧ Hid (MadeAt W wr e.first e.topic k v)) (fun _ i _ => e.parts.toNat - (intOf i).toNat)
      case atStart => exact ⟨0, Nat.zero_le _, rfl, MadeAt.start _ _ (below_drew1 (Below.refl _ _))⟩
      case round =>
        obtain ⟨k, hk, rfl, hm⟩ := hrel
        by_cases hlt : k < e.parts.toNat
        · have hi : (k : Int) < e.parts := by omega
          have c5 : wr.cell? ⟨w.heap.size, 5, none⟩ = some (.int .i64 e.first) := (HK0.out.ext hm.out.below).cell 5
          have HN := Lib.hid (logNew_any e.first hf.1 wr)
          go_wp2_with fail
          with_reducible refine HN.out.mono ?_
          rintro er w1 ⟨lb, rfl, hl1, hb1⟩
          have HL1 := Lib.hid hl1
          have HB1 := Lib.hid hb1
          have HD := Lib.hid (dedNew_any w1)
          clear hl1 hb1
          go_wp2_with fail
          with_reducible refine HD.out.mono ?_
          rintro er w2 ⟨db, rfl, hd2, hb2⟩
          have HD2 := Lib.hid hd2
          have HB2 := Lib.hid hb2
          clear hd2 hb2
          obtain ⟨ps, hps⟩ := hm.out.row
          have hbn := below_new w2 (.cells #[.pointer (some ⟨lb, 0, none⟩), .pointer (some ⟨db, 0, none⟩)] 78)
          have hown := own_extB (own_extB (own_extB hps HB1.out) HB2.out) hbn
          have HOwn := Lib.hid hown
          have HPs := Lib.hid hps
          have HBn := Lib.hid hbn
          clear hown hps hbn
          go_wp2_with (first | (at_builtin; refine wpList_append_gen rfl (.tmp 44) (.tmp 48) 86 rfl 78 ii _ 2 16 Tryz.underlying86 HI.out HZ.out HSz.out HY.out rfl (by omega) W.heap.size (w2.alloc (.cells #[.pointer (some ⟨lb, 0, none⟩), .pointer (some ⟨db, 0, none⟩)] 78)) u7 k (ps.flatMap PartW.cells) rfl HOwn.out ⟨w2.heap.size, 0, none⟩ 1 1 [.pointer (some ⟨lb, 0, none⟩), .pointer (some ⟨db, 0, none⟩)] rfl rfl (cells_newm _ _ (0, 0) _ _ rfl _ rfl) (one_p ⟨lb, db, newPart 0⟩) (by unfold maxLen; omega) (by omega) (Below.refl _ _) (by have a1 := hm.out.below.size; have a2 := HB1.out.size; have a3 := HB2.out.size; have a4 := HBn.out.size; omega) ?_; intro A5 c5 w5 ho5 hg5 hob5 hb5 hs5) | fail)
          have hmade : MadeAt W w5 e.first e.topic (k + 1) (.slice A5 (k + 1) c5) := hm.out.step HL1.out HB1.out HD2.out HB2.out HBn.out (fun ps' hps' => by rw [← own_uniq HPs.out hps']; exact ho5.out) hg5.out hob5.out
          have HMade := Lib.hid hmade
          clear hmade
          first
            | go_roundw
              case rel => exact ⟨k + 1, by omega, by go_num, HMade.out⟩
              case measure => simp [intOf]; omega
            | exact ⟨⟨k + 1, by omega, by go_num, HMade.out⟩, by simp [intOf]; omega⟩
        · have hk1 : k = e.parts.toNat := by omega
          have hi : ¬ (k : Int) < e.parts := by omega
          have hBW := hm.out.below
          have d0 : wr.cell? ⟨s, 0, none⟩ = some (.map (some S.tb)) := (hBW.cell (p := ⟨s, 0, none⟩) (cell_lt c0)).trans c0
          have d1 : wr.cell? ⟨w.heap.size, 1, none⟩ = some (.string e.topic) := (hBW.cell (p := ⟨w.heap.size, 1, none⟩) (cell_lt c1)).trans c1
          have hMr : wr.drew.ownsMap Tryz.prog 9 rawElem S.tb 1000 (.map (S.V.map TopW.ent)) := map_turned (P := fun _ => False) HM1.out (Turned.of_below (below_drew1 hBW)) id
          have HMr := Lib.hid hMr
          have HBW := Lib.hid hBW
          have HK1 := Lib.hid hk1
          clear hMr hBW hk1 hlt hlen c02
          go_upto_region 14 with fail
          go_still_tail 7, (by kernel_rfl)
          change wpList _ _ _ _ _ wr.drew
          clear d0 d1
          go_wp2_with (first | (at_mapUpdate; go_loud (refine wpList_mapUpdate_own _ rfl _ _ _ 62 rfl 9 86 key_strd Tryz.underlying62 rawElem S.tb 1000 (.map (S.V.map TopW.ent)) rfl HMr.out (by unfold maxLen; omega) _ _ (.string (namL e.topic)) rfl rfl (key_str_is (by unfold maxLen; omega)) (.held u7) [] rfl ?_); go_loud (intro w5 ho5 hg5)) | fail)
          have hleft := (HS.out.ext HB0.out).make hf hn (show k ≤ 1000 by have := HK1.out; omega) (w4 := wr) hm.out ho5 ⟨hg5.os, hg5.tape, hg5.output, hg5.size, hg5.block⟩ Hbx.out (by have := H8.out; omega)
          have HLeft := Lib.hid (hleft.from HB0.out)
          clear ho5 hg5 hleft
          go_wp2_with fail
          go_ret
          rw [HC.out]
          rw [HK1.out] at HLeft
          exact ⟨_, rfl, .inl ⟨rfl, rfl⟩, HLeft.out⟩
end Go.Proofs.YtjodiieeocaipaaGreatDoor

/-
  state.remove.
-/
namespace Go.Proofs.YtjodiieeocaipaaGreatDoor
open Go.RowKit Go.Maps

def delW (V : List TopW) (n : ByteArray) : List TopW := V.filter (fun t => !decide (t.name = n))
theorem del_ent (V : List TopW) (n : ByteArray) : (DataW.map (V.map TopW.ent)).del (.string (namL n)) = .map ((delW V n).map TopW.ent) := by
  show DataW.map (List.filter _ _) = _
  rw [List.filter_map]
  congr 2
  unfold delW
  congr 1
  funext t
  show (!(t.ent.1).sameKey _) = _
  rw [ent_same]
theorem del_m (V : List TopW) (n : ByteArray) : (delW V n).map TopW.m = delT n (V.map TopW.m) := by
  unfold delW delT
  rw [List.filter_map]
  rfl
theorem StAt.drop {o : Nat → Option Who} {s N : Nat} {S : StW} {w w1 w2 : World} (h : StAt w o s N S) {n : ByteArray} {k : Nat} (hk : k ≤ 1000)
    (ho : w1.ownsMap Tryz.prog 9 rawElem S.tb k ((DataW.map (S.V.map TopW.ent)).del (.string (namL n)))) (hg1 : w.grownBy w1 (some S.tb)) (hg : Grp w2 S.g S.gb (lessOf n S.grp)) (hg2 : w1.grownBy w2 (some S.gb)) :
    Left w w2 o s (N + 1) ⟨delT n S.m.top, lessOf n S.grp⟩ := by
  have hx : ∀ {i : Nat} {x : Who}, o i = some x → i < w.heap.size := fun e => h.lim _ (by rw [e]; simp)
  have hT1 : Turned (fun j => j = S.tb) w w1 := Turned.of_grown hg1 (fun k e => (Option.some.inj e).symm)
  have hT2 : Turned (fun j => j = S.gb) w1 w2 := Turned.of_grown hg2 (fun k e => (Option.some.inj e).symm)
  have hT : Turned (fun j => j = S.tb ∨ j = S.gb) w w2 := (hT1.more (fun _ _ e => .inl e)).trans hT2 (fun _ _ e => .inr e)
  have htg : S.tb ≠ S.gb := fun e => by
    have h1 := h.own.2.1
    have h2 := h.own.2.2.2
    rw [e, h2] at h1
    cases h1
  have hne : ∀ {j : Nat} {x : Who}, o j = some x → x ≠ .top → x ≠ .grp → ¬ (j = S.tb ∨ j = S.gb) := fun e h1 h2 e2 => by
    rcases e2 with rfl | rfl
    · rw [h.own.2.1] at e
      exact h1 (Option.some.inj e).symm
    · rw [h.own.2.2.2] at e
      exact h2 (Option.some.inj e).symm
  have hsne : ¬ (s = S.tb ∨ s = S.gb) := fun e => by
    have hb := h.bk
    unfold Bk at hb
    rcases e with e | e
    · obtain ⟨es, clock, hm, _⟩ := h.map
      rw [← e] at hm
      rw [hb] at hm
      cases hm
    · obtain ⟨es, clock, hm, _⟩ := h.grp.own
      rw [← e] at hm
      rw [hb] at hm
      cases hm
  refine ⟨⟨o, ⟨S.tb, S.g, S.gb, delW S.V n, lessOf n S.grp⟩, ⟨h.bk.turned hT hsne, ?_, hg, fun t ht => ?_, ?_, h.own, fun i hi => Nat.lt_of_lt_of_le (h.lim i hi) hT.size, ?_, Nat.le_trans (size_less _ _) h.marks⟩, ?_, fun _ _ => rfl⟩, ?_⟩
  · show w2.ownsMap _ _ _ _ 1000 (.map ((delW S.V n).map TopW.ent))
    rw [← del_ent]
    exact map_turned (ho.mono hk) hT2 htg
  · have hm := (List.mem_filter.1 ht).1
    exact ((h.tops t hm).turned hT (fun j _ hj => by
      rcases hj with ⟨k, hj⟩ | hj
      · exact hne hj (by simp) (by simp)
      · exact hne hj (by simp) (by simp))).mono (Nat.le_succ N)
  · exact List.Pairwise.sublist List.filter_sublist h.sorted
  · exact Nat.le_trans (List.length_filter_le _ _) h.few
  · show (⟨(delW S.V n).map TopW.m, _⟩ : StM) = _
    rw [del_m]
    rfl
  · exact hT.more (fun j _ e => by
      rcases e with rfl | rfl
      · rw [h.own.2.1]; simp
      · rw [h.own.2.2.2]; simp)
theorem drop_step {o : Nat → Option Who} {s N : Nat} {S : StW} {w w1 : World} (h : StAt w o s N S) (hg : w.grownBy w1 (some S.tb)) : Grp w1 S.g S.gb S.grp ∧ w1.cell? ⟨s, 1, none⟩ = some (.pointer (some ⟨S.g, 0, none⟩)) := by
  have htg : S.tb ≠ S.gb := fun e => by
    have h1 := h.own.2.1
    have h2 := h.own.2.2.2
    rw [e, h2] at h1
    cases h1
  have htg2 : S.tb ≠ S.g := fun e => by
    have h1 := h.own.2.1
    have h2 := h.own.2.2.1
    rw [e, h2] at h1
    cases h1
  have hts : S.tb ≠ s := fun e => by
    have hb := h.bk
    obtain ⟨es, clock, hm, _⟩ := h.map
    rw [e] at hm
    unfold Bk at hb
    rw [hb] at hm
    cases hm
  exact ⟨h.grp.keep hg (fun e => htg (Option.some.inj e).symm) (fun e => htg2 (Option.some.inj e).symm), (h.bk.grown hg (fun e => hts (Option.some.inj e).symm)).cell 1⟩
/-- state.remove -/
noncomputable def remM (M : StM) (n : ByteArray) : StM × Int := if hasT M.top n then (⟨delT n M.top, lessOf n M.grp⟩, 0) else (M, 10)
set_option maxRecDepth 100000 in
set_option maxHeartbeats 2000000 in
theorem remove_any {o : Nat → Option Who} {s N : Nat} {S : StW} {w : World} (h : StAt w o s N S) (n : ByteArray) (hn : n.size ≤ 1000) :
    Calls Tryz.prog 51 #[.pointer (some ⟨s, 0, none⟩), .string n] w fun er w' => ∃ v, er = .returned v ∧ ErrV v (remM S.m n).2 ∧ Left w w' o s (N + 1) (remM S.m n).1 := by
  have HS := Lib.hid h
  have c0 : w.cell? ⟨s, 0, none⟩ = some (.map (some S.tb)) := h.bk.cell 0
  have c1 : w.cell? ⟨s, 1, none⟩ = some (.pointer (some ⟨S.g, 0, none⟩)) := h.bk.cell 1
  obtain ⟨vx, hlk⟩ := look_some h.map n (by unfold maxLen; omega)
  obtain ⟨bx, hbx⟩ : ∃ bx, hasT (S.V.map TopW.m) n = bx := ⟨_, rfl⟩
  rw [hbx] at hlk
  have Hbx := Lib.hid hbx
  have HM1 := Lib.hid h.map
  clear h hbx
  go_enter Tryz.func51, Tryz.ntmps51
  cases bx with
  | false =>
    go_wp2_with fail
    go_ret
    have hc : remM S.m n = (S.m, 10) := by
      unfold remM
      rw [show hasT S.m.top n = false from Hbx.out, if_neg (by decide)]
    rw [hc]
    exact ⟨_, rfl, errV_no 10 (by decide), Left.still HS.out (Below.refl _ _)⟩
  | true =>
    have hc : remM S.m n = (⟨delT n S.m.top, lessOf n S.m.grp⟩, 0) := by
      unfold remM
      rw [show hasT S.m.top n = true from Hbx.out, if_pos rfl]
    have HC := Lib.hid hc
    clear hc
    go_wp2_with (first | (at_delete; go_loud (refine wpList_delete_own _ rfl _ _ 62 9 rfl 86 key_strd Tryz.underlying62 rawElem S.tb 1000 (.map (S.V.map TopW.ent)) rfl HM1.out _ (.string (namL n)) rfl (key_str_is (by unfold maxLen; omega)) ?_); go_loud (intro w1 ho1 ht1); obtain ⟨hG1, d1⟩ := drop_step HS.out ht1.grown; have HF := Lib.hid (forget_any S.g S.gb S.grp n w1 hG1 (by unfold maxLen; omega) (Nat.le_trans HS.out.marks (by omega))); have HO1 := Lib.hid ho1; have HG1 := Lib.hid ht1.grown; clear hG1 ho1 ht1 hlk) | (go_at_call 81; refine HF.out.mono ?_; rintro er w2 ⟨rfl, hg2, hgr2⟩) | fail)
    go_ret
    rw [HC.out]
    exact ⟨_, rfl, .inl ⟨rfl, rfl⟩, HS.out.drop (Nat.le_refl _) HO1.out HG1.out hg2 hgr2⟩
end Go.Proofs.YtjodiieeocaipaaGreatDoor
