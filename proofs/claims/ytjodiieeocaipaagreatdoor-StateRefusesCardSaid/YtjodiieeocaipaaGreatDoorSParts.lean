import Derived.Test.YtjodiieeocaipaaGreatDoorSLogs
import Derived.Test.YtjodiieeocaipaaGreatDoorSDeds
/-
  state: part, Log, Marked, New; a partition turns.
-/
namespace Go.Proofs.YtjodiieeocaipaaGreatDoor
open Go.RowKit Go.Maps

theorem key_strd : Keyed Tryz.prog 9 := string_keyed Tryz.underlying9
theorem zero_parts (w : World) : (zeroValue 86).run Tryz.prog w = .ok (.slice none 0 0) w := by kernel_rfl
/-- the partition of a topic -/
def findW (V : List TopW) (n : ByteArray) : Option TopW := V.find? (fun t => decide (t.name = n))
theorem findW_mem {V : List TopW} {n : ByteArray} {t : TopW} (h : findW V n = some t) : t ∈ V ∧ t.name = n := by
  unfold findW at h
  exact ⟨List.mem_of_find?_eq_some h, by simpa using List.find?_some h⟩
theorem key_str_is {n : ByteArray} (h : n.size ≤ maxLen) : keyOf Tryz.prog 9 (.string n) = some (.string (namL n)) := by
  unfold namL
  simp [keyOf, mapKey, Tryz.underlying9, h]
set_option maxRecDepth 100000 in
theorem topics_look {w : World} {tb k : Nat} {V : List TopW} (ho : w.ownsMap Tryz.prog 9 rawElem tb k (.map (V.map TopW.ent))) (n : ByteArray) (hn : n.size ≤ maxLen) :
    (Instr.lookup 62 (.map (some tb)) (.string n) false).run Tryz.prog w = .ok (match findW V n with | some t => t.v | none => .slice none 0 0) w := by
  obtain ⟨v, ps, hlk, hv⟩ := ho.lookup key_strd Tryz.underlying62 (zero_parts _) (show rawElem (.slice none 0 0) = some (.held (.slice none 0 0), []) from rfl) (key_str_is hn)
  rw [at_ent] at hv
  have hv : some (DataW.held v, ([] : List MemPlace)) = some (_, ps) := hv
  injection hv with hv
  injection hv with hv _
  rw [hlk]
  unfold findW
  cases hf : V.find? (fun t => decide (t.name = n)) with
  | none =>
    rw [hf] at hv
    injection hv with hv
    rw [hv]
  | some t =>
    rw [hf] at hv
    injection hv with hv
    rw [hv]
set_option maxRecDepth 100000 in
theorem topics_look_ok {w : World} {tb k : Nat} {V : List TopW} (ho : w.ownsMap Tryz.prog 9 rawElem tb k (.map (V.map TopW.ent))) (n : ByteArray) (hn : n.size ≤ maxLen) :
    (Instr.lookup 62 (.map (some tb)) (.string n) true).run Tryz.prog w = .ok (.tuple #[(match findW V n with | some t => t.v | none => .slice none 0 0), .bool (hasT (V.map TopW.m) n)]) w := by
  obtain ⟨v, ps, hlk, hv⟩ := ho.look_ok key_strd Tryz.underlying62 (zero_parts _) (show rawElem (.slice none 0 0) = some (.held (.slice none 0 0), []) from rfl) (key_str_is hn)
  rw [at_ent] at hv
  have hv : some (DataW.held v, ([] : List MemPlace)) = some (_, ps) := hv
  injection hv with hv
  injection hv with hv _
  rw [hlk, has_ent, has_m]
  unfold findW
  cases hf : V.find? (fun t => decide (t.name = n)) with
  | none =>
    rw [hf] at hv
    injection hv with hv
    rw [hv]
  | some t =>
    rw [hf] at hv
    injection hv with hv
    rw [hv]
theorem partT_is (V : List TopW) (n : ByteArray) (k : Int) : partT (V.map TopW.m) n k = if 0 ≤ k then (findW V n).bind (fun t => (t.ps[k.toNat]?).map PartW.m) else none := by
  unfold partT
  rw [find_m]
  split
  · show Option.bind (Option.map _ _) _ = Option.bind (findW V n) _
    unfold findW
    cases V.find? (fun t => decide (t.name = n)) with
    | none => rfl
    | some t => simp [List.getElem?_map]
  · rfl
/-- a row of partitions -/
theorem parts_cell {w : World} {v : Value} {ps : List PartW} (ho : w.ownsRow 0 78 2 v ps.length (ps.flatMap PartW.cells)) : ∃ A c, v = .slice A ps.length c ∧ ps.length ≤ c ∧ c ≤ 9223372036854775807 ∧
    ∀ k p, ps[k]? = some p → ∃ g, A = some ⟨g, 0, none⟩ ∧ g < w.heap.size ∧ w.cell? ⟨g, k * 2, none⟩ = some (.pointer (some ⟨p.lb, 0, none⟩)) ∧ w.cell? ⟨g, k * 2 + 1, none⟩ = some (.pointer (some ⟨p.db, 0, none⟩)) := by
  have hget : ∀ (l : List PartW) (k : Nat) (p : PartW) (j : Nat) (u : Value), l[k]? = some p → p.cells[j]? = some u → (l.flatMap PartW.cells)[k * 2 + j]? = some u := by
    intro l
    induction l with
    | nil => intro k p j u h; cases h
    | cons a r ih =>
      intro k p j u hk hu
      have hj : j < 2 := by have := (List.getElem?_eq_some_iff.1 hu).1; rw [p2] at this; exact this
      rw [List.flatMap_cons]
      cases k with
      | zero =>
        have e : a = p := by simpa using hk
        subst e
        rw [List.getElem?_append_left (by rw [p2]; omega), Nat.zero_mul, Nat.zero_add]
        exact hu
      | succ k =>
        rw [List.getElem?_append_right (by rw [p2]; omega), p2, show (k + 1) * 2 + j - 2 = k * 2 + j by omega]
        exact ih k p j u (by simpa using hk) hu
  rcases ho.2 with ⟨rfl, h0⟩ | ⟨g, cap, cur, rfl, _, hg, h3, h4, _⟩
  · obtain rfl : ps = [] := List.eq_nil_of_length_eq_zero h0
    exact ⟨none, 0, rfl, Nat.le_refl _, by omega, fun k h hk => by cases hk⟩
  · refine ⟨_, _, rfl, h3, h4, fun k p hk => ⟨g, rfl, (Array.getElem?_eq_some_iff.1 hg).1, ?_, ?_⟩⟩
    · have hlt := (List.getElem?_eq_some_iff.1 hk).1
      have := hget ps k p 0 _ hk rfl
      rw [Nat.add_zero] at this
      rw [ho.cellAt (k * 2) (by omega), this]
    · have hlt := (List.getElem?_eq_some_iff.1 hk).1
      rw [ho.cellAt (k * 2 + 1) (by omega), hget ps k p 1 _ hk rfl]
/-- what part hands back -/
def PartR (w : World) (S : StW) (n : ByteArray) (k : Int) (e : Ending) : Prop :=
  (partT S.m.top n k = none ∧ e = .returned (.pointer none)) ∨ ∃ (t : TopW) (kk : Nat) (p : PartW) (g : Nat), t ∈ S.V ∧ t.name = n ∧ k = kk ∧ t.ps[kk]? = some p ∧ partT S.m.top n k = some p.m ∧ e = .returned (.pointer (some ⟨g, kk * 2, none⟩)) ∧ g < w.heap.size ∧ t.v.ownBlock = some g ∧ w.cell? ⟨g, kk * 2, none⟩ = some (.pointer (some ⟨p.lb, 0, none⟩)) ∧ w.cell? ⟨g, kk * 2 + 1, none⟩ = some (.pointer (some ⟨p.db, 0, none⟩))
set_option maxRecDepth 100000 in
set_option maxHeartbeats 1000000 in
theorem part_any {o : Nat → Option Who} {s N : Nat} {S : StW} {w : World} (h : StAt w o s N S) (n : ByteArray) (hn : n.size ≤ 1000) (k : Int) :
    Calls Tryz.prog 33 #[.pointer (some ⟨s, 0, none⟩), .string n, .int .i64 k] w fun e w' => PartR w S n k e ∧ w = w' := by
  have c0 : w.cell? ⟨s, 0, none⟩ = some (.map (some S.tb)) := h.bk.cell 0
  have hlk := topics_look h.map n (by unfold maxLen; omega)
  have hpt := partT_is S.V n k
  cases hf : findW S.V n with
  | none =>
    rw [hf] at hpt hlk
    replace hlk : (Instr.lookup 62 (.map (some S.tb)) (.string n) false).run Tryz.prog w = .ok (.slice none 0 0) w := hlk
    have hno : Hid (partT S.m.top n k = none) := by
      show partT (S.V.map TopW.m) n k = none
      rw [hpt]
      split <;> rfl
    clear hpt hf h
    by_cases h0 : k < 0
    · have q0 : decide (k < 0) = true := decide_eq_true h0
      go_enter Tryz.func33, Tryz.ntmps33
      go_wp2
      go_ret
      exact ⟨.inl ⟨hno.out, rfl⟩, rfl⟩
    · have q0 : decide (k < 0) = false := decide_eq_false h0
      have q1 : decide ((0 : Int) ≤ k) = true := decide_eq_true (by omega)
      go_enter Tryz.func33, Tryz.ntmps33
      go_wp2
      go_ret
      exact ⟨.inl ⟨hno.out, rfl⟩, rfl⟩
  | some t =>
    obtain ⟨hm, hname⟩ := findW_mem hf
    obtain ⟨A, c, hv, hc1, hc2, hcell⟩ := parts_cell (h.tops t hm).row
    rw [hf] at hpt hlk
    replace hlk : (Instr.lookup 62 (.map (some S.tb)) (.string n) false).run Tryz.prog w = .ok t.v w := hlk
    rw [hv] at hlk
    by_cases h0 : k < 0
    · have q0 : decide (k < 0) = true := decide_eq_true h0
      have hno : Hid (partT S.m.top n k = none) := by
        show partT (S.V.map TopW.m) n k = none
        rw [hpt, if_neg (by omega)]
      clear hpt hf h hcell h0
      go_enter Tryz.func33, Tryz.ntmps33
      go_wp2
      go_ret
      exact ⟨.inl ⟨hno.out, rfl⟩, rfl⟩
    · have q0 : decide (k < 0) = false := decide_eq_false h0
      obtain ⟨kk, rfl⟩ := Int.eq_ofNat_of_zero_le (show 0 ≤ k by omega)
      rw [if_pos (by omega)] at hpt
      by_cases h1 : kk < t.ps.length
      · obtain ⟨p, hp⟩ : ∃ p, t.ps[kk]? = some p := ⟨t.ps[kk], List.getElem?_eq_getElem h1⟩
        obtain ⟨g, rfl, hg, d0, d1⟩ := hcell kk p hp
        have hso : Hid (PartR w S n kk (.returned (.pointer (some ⟨g, kk * 2, none⟩)))) := by
          refine .inr ⟨t, kk, p, g, hm, hname, rfl, hp, ?_, rfl, hg, by rw [hv]; rfl, d0, d1⟩
          show partT (S.V.map TopW.m) n kk = some p.m
          rw [hpt]
          simp [hp]
        have q1 : decide ((t.ps.length : Int) ≤ (kk : Int)) = false := decide_eq_false (by omega)
        have q2 : (kk : Int) < (t.ps.length : Int) := by omega
        have q3 : (0 : Int) ≤ (kk : Int) := by omega
        clear hpt hf h hcell h0 d0 d1 hp hm
        go_enter Tryz.func33, Tryz.ntmps33
        go_wp2
        go_ret
        exact ⟨hso.out, rfl⟩
      · have q1 : decide (t.ps.length ≤ kk) = true := decide_eq_true (by omega)
        have hno : Hid (partT S.m.top n kk = none) := by
          show partT (S.V.map TopW.m) n kk = none
          rw [hpt]
          simp [h1]
        clear hpt hf h hcell h0 h1
        go_enter Tryz.func33, Tryz.ntmps33
        go_wp2
        go_ret
        exact ⟨.inl ⟨hno.out, rfl⟩, rfl⟩
end Go.Proofs.YtjodiieeocaipaaGreatDoor

/-
  state: New, Log, Marked; a partition turns.
-/
namespace Go.Proofs.YtjodiieeocaipaaGreatDoor
open Go.RowKit Go.Maps

/-- what Log hands back -/
def LogR (S : StW) (n : ByteArray) (k : Int) (e : Ending) : Prop :=
  (partT S.m.top n k = none ∧ e = .returned (.pointer none)) ∨ ∃ (t : TopW) (kk : Nat) (p : PartW), t ∈ S.V ∧ t.name = n ∧ k = kk ∧ t.ps[kk]? = some p ∧ partT S.m.top n k = some p.m ∧ e = .returned (.pointer (some ⟨p.lb, 0, none⟩))
set_option maxRecDepth 100000 in
theorem stLog_any {o : Nat → Option Who} {s N : Nat} {S : StW} {w : World} (h : StAt w o s N S) (n : ByteArray) (hn : n.size ≤ 1000) (k : Int) :
    Calls Tryz.prog 17 #[.pointer (some ⟨s, 0, none⟩), .string n, .int .i64 k] w fun e w' => LogR S n k e ∧ w = w' := by
  have HP := Lib.hid (part_any h n hn k)
  clear h
  go_enter Tryz.func17, Tryz.ntmps17
  go_wp2_with fail
  with_reducible refine HP.out.mono ?_
  rintro er w1 ⟨hp, rfl⟩
  rcases hp with ⟨hno, rfl⟩ | ⟨t, kk, p, g, h1, h2, rfl, h4, h5, rfl, hg, _, d0, d1⟩
  · have Hno := Lib.hid hno
    clear hno
    go_wp2_with fail
    go_ret
    exact ⟨.inl ⟨Hno.out, rfl⟩, rfl⟩
  · have HR : Hid (LogR S n kk (.returned (.pointer (some ⟨p.lb, 0, none⟩)))) := .inr ⟨t, kk, p, h1, h2, rfl, h4, h5, rfl⟩
    clear h1 h2 h4 h5 d1 HP
    go_wp2_with fail
    go_ret
    exact ⟨HR.out, rfl⟩
set_option maxRecDepth 100000 in
theorem stMarked_any {o : Nat → Option Who} {s N : Nat} {S : StW} {w : World} (h : StAt w o s N S) (a n : ByteArray) (ha : a.size ≤ 1000) (hn : n.size ≤ 1000) (k : Int) (hk : (Lit.int .i64 k).wf = true) :
    Calls Tryz.prog 16 #[.pointer (some ⟨s, 0, none⟩), .string a, .string n, .int .i64 k] w fun e w' => e = .returned (.tuple #[.int .i64 (markOf S.grp (mkey a n k)), .bool (Maps.has S.grp (mkey a n k))]) ∧ w = w' := by
  have c1 : w.cell? ⟨s, 1, none⟩ = some (.pointer (some ⟨S.g, 0, none⟩)) := h.bk.cell 1
  have HM := Lib.hid (mark_any S.g S.gb S.grp a n k w h.grp (by unfold maxLen; omega) (by unfold maxLen; omega) hk)
  clear h
  go_enter Tryz.func16, Tryz.ntmps16
  go_wp2_with fail
  with_reducible refine HM.out.mono ?_
  rintro er w1 ⟨rfl, rfl⟩
  go_wp2_with fail
  go_ret2
  exact ⟨rfl, rfl⟩
set_option maxRecDepth 100000 in
theorem stNew_any (w : World) : Calls Tryz.prog 10 #[] w fun e w' => ∃ (s : Nat) (o : Nat → Option Who) (S : StW), e = .returned (.pointer (some ⟨s, 0, none⟩)) ∧ S.m = newSt ∧ StAt w' o s 0 S ∧ (∀ i, o i ≠ none → w.heap.size ≤ i) ∧ Below w.heap.size w w' := by
  have hmm := @run_makeMap Tryz.prog
  have HG := Lib.hid (new_any (w.alloc (.map #[] 0)))
  have hb0 := Lib.hid (below_new w (.map #[] 0))
  have ho := Lib.hid (World.ownsMap_made (H := Value) w Tryz.prog 9 rawElem)
  have hs : (w.alloc (.map #[] 0)).heap.size = w.heap.size + 1 := by simp
  rw [hs] at HG
  go_enter Tryz.func10, Tryz.ntmps10
  go_wp2_with fail
  with_reducible refine HG.out.mono ?_
  rintro er w1 ⟨rfl, hg, hb1⟩
  have hz : (w.alloc (.map #[] 0)).heap.size ≤ w1.heap.size := hb1.size
  rw [hs] at hz
  have HB1 := Lib.hid (hb0.out.trans (below_le hb0.out.size (show Below (w.alloc (.map #[] 0)).heap.size (w.alloc (.map #[] 0)) w1 by rw [hs]; exact hb1)))
  have hlt := hg.bk.lt
  have HG1 := Lib.hid hg
  have HO1 := Lib.hid (ho.out.kept (grown_of_below (show Below (w.alloc (.map #[] 0)).heap.size (w.alloc (.map #[] 0)) w1 by rw [hs]; exact hb1)) (by simp))
  have hk := Lib.hid (Bk.made w1 66 #[.map (some w.heap.size), .pointer (some ⟨w.heap.size + 1 + 1, 0, none⟩)])
  have hn := Lib.hid (below_new w1 (.cells #[.map (some w.heap.size), .pointer (some ⟨w.heap.size + 1 + 1, 0, none⟩)] 66))
  clear hb1 hg HG hmm
  go_wp2_with fail
  go_ret
  refine ⟨w1.heap.size, fun i => if i = w1.heap.size ∨ i = w.heap.size then some .top else if i = w.heap.size + 1 ∨ i = w.heap.size + 1 + 1 then some .grp else none, ⟨w.heap.size, w.heap.size + 1 + 1, w.heap.size + 1, [], .map []⟩, rfl, rfl, ?_, ?_, HB1.out.trans (below_le HB1.out.size hn.out)⟩
  · refine ⟨hk.out, (World.ownsMap.mono (HO1.out.alloc _) (Nat.zero_le _)), HG1.out.ext hn.out, fun t ht => (by cases ht), List.Pairwise.nil, ⟨by simp, by simp, ?_, ?_⟩, fun i hi => ?_, Nat.zero_le _, Nat.zero_le _⟩
    · rw [if_neg (by show ¬ (w.heap.size + 1 + 1 = w1.heap.size ∨ w.heap.size + 1 + 1 = w.heap.size); omega), if_pos (.inr rfl)]
    · rw [if_neg (by show ¬ (w.heap.size + 1 = w1.heap.size ∨ w.heap.size + 1 = w.heap.size); omega), if_pos (.inl rfl)]
    · have hsz : (w1.alloc (.cells #[.map (some w.heap.size), .pointer (some ⟨w.heap.size + 1 + 1, 0, none⟩)] 66)).heap.size = w1.heap.size + 1 := by simp
      rw [hsz]
      replace hi : (if i = w1.heap.size ∨ i = w.heap.size then some Who.top else if i = w.heap.size + 1 ∨ i = w.heap.size + 1 + 1 then some Who.grp else none) ≠ none := hi
      by_cases h1 : i = w1.heap.size ∨ i = w.heap.size
      · omega
      · rw [if_neg h1] at hi
        by_cases h2 : i = w.heap.size + 1 ∨ i = w.heap.size + 1 + 1
        · omega
        · rw [if_neg h2] at hi
          exact absurd rfl hi
  · intro i hi
    replace hi : (if i = w1.heap.size ∨ i = w.heap.size then some Who.top else if i = w.heap.size + 1 ∨ i = w.heap.size + 1 + 1 then some Who.grp else none) ≠ none := hi
    by_cases h1 : i = w1.heap.size ∨ i = w.heap.size
    · have := HB1.out.size
      omega
    · rw [if_neg h1] at hi
      by_cases h2 : i = w.heap.size + 1 ∨ i = w.heap.size + 1 + 1
      · omega
      · rw [if_neg h2] at hi
        exact absurd rfl hi
/-- the topics with a partition turned -/
def setW (V : List TopW) (n : ByteArray) (kk : Nat) (p : PartW) : List TopW := V.map (fun t => if t.name = n then ⟨t.name, t.v, t.ps.set kk p⟩ else t)
theorem set_ent (V : List TopW) (n : ByteArray) (kk : Nat) (p : PartW) : (setW V n kk p).map TopW.ent = V.map TopW.ent := by
  unfold setW
  rw [List.map_map]
  apply List.map_congr_left
  intro t _
  show TopW.ent (if t.name = n then _ else t) = _
  split <;> rfl
theorem set_m (V : List TopW) (n : ByteArray) (kk : Nat) (p : PartW) : (setW V n kk p).map TopW.m = setT (V.map TopW.m) n kk p.m := by
  unfold setW setT
  rw [List.map_map, List.map_map]
  apply List.map_congr_left
  intro t _
  show TopW.m (if t.name = n then _ else t) = if t.name = n then (t.name, (t.ps.map PartW.m).set kk p.m) else t.m
  split
  · show (t.name, (t.ps.set kk p).map PartW.m) = _
    rw [List.map_set]
  · rfl
/-- after a partition's blocks alone turned -/
def ownPart (o : Nat → Option Who) (w w' : World) (n : ByteArray) (kk : Nat) (i : Nat) : Option Who := if w.heap.size ≤ i ∧ i < w'.heap.size then some (.part n kk) else o i
theorem StAt.setPart {o : Nat → Option Who} {s N : Nat} {S : StW} {w w' : World} (h : StAt w o s N S) {t : TopW} {kk : Nat} {p : PartW} (ht : t ∈ S.V) (hp : t.ps[kk]? = some p) (hT : Turned (fun i => o i = some (.part t.name kk)) w w') (P' : PartM)
    (hl : LogAt w' (Wide (fun i => o i = some (.part t.name kk)) w) p.lb P'.log) (hlo : P'.log.Ok (N + 1)) (hd : DedAt w' (Wide (fun i => o i = some (.part t.name kk)) w) p.db (N + 1) P'.ded) (hdo : DedOk P'.ded) :
    StAt w' (ownPart o w w' t.name kk) s (N + 1) ⟨S.tb, S.g, S.gb, setW S.V t.name kk ⟨p.lb, p.db, P'⟩, S.grp⟩ := by
  have ho : ∀ i, i < w.heap.size → ownPart o w w' t.name kk i = o i := fun i hi => by
    unfold ownPart
    rw [if_neg (by omega)]
  have hx : ∀ {i : Nat} {x : Who}, o i = some x → i < w.heap.size := fun e => h.lim _ (by rw [e]; simp)
  have hne : ∀ {i : Nat} {x : Who}, o i = some x → x ≠ .part t.name kk → ¬ o i = some (.part t.name kk) := fun e hn e2 => hn (by rw [e] at e2; exact Option.some.inj e2)
  have hkkl : kk < t.ps.length := (List.getElem?_eq_some_iff.1 hp).1
  have hw : ∀ i, i < w'.heap.size → Wide (fun i => o i = some (.part t.name kk)) w i → ownPart o w w' t.name kk i = some (.part t.name kk) := fun i hi hq => by
    rcases hq with hq | hq
    · rw [ho i (hx hq)]; exact hq
    · unfold ownPart
      rw [if_pos ⟨hq, hi⟩]
  refine ⟨h.bk.turned hT (hne h.own.1 (by simp)), ?_, h.grp.turned hT (hne h.own.2.2.1 (by simp)) (hne h.own.2.2.2 (by simp)), ?_, ?_, ⟨by rw [ho _ (hx h.own.1)]; exact h.own.1, by rw [ho _ (hx h.own.2.1)]; exact h.own.2.1, by rw [ho _ (hx h.own.2.2.1)]; exact h.own.2.2.1, by rw [ho _ (hx h.own.2.2.2)]; exact h.own.2.2.2⟩, fun i hi => ?_, by simp [setW]; exact h.few, h.marks⟩
  · show w'.ownsMap _ _ _ _ _ (.map ((setW S.V t.name kk ⟨p.lb, p.db, P'⟩).map TopW.ent))
    rw [set_ent]
    exact map_turned h.map hT (hne h.own.2.1 (by simp))
  · intro u hu
    obtain ⟨v, hv, rfl⟩ := List.mem_map.1 hu
    have hv0 := h.tops v hv
    by_cases hn : v.name = t.name
    · obtain rfl := sorted_names h.sorted hv ht hn
      rw [if_pos rfl]
      have hcells : (v.ps.set kk ⟨p.lb, p.db, P'⟩).flatMap PartW.cells = v.ps.flatMap PartW.cells := by
        rw [List.flatMap_def, List.flatMap_def, List.map_set]
        congr 1
        apply List.ext_getElem?
        intro j
        rw [List.getElem?_set]
        split
        · rename_i e
          subst e
          rw [if_pos (by simpa using hkkl), List.getElem?_map, hp]
          rfl
        · rfl
      refine ⟨?_, fun g e => ?_, by simp; exact hv0.few, hv0.short, fun j q hj => ?_, fun j q hj => ?_⟩
      · show w'.ownsRow 0 _ 2 v.v (v.ps.set kk _).length ((v.ps.set kk ⟨p.lb, p.db, P'⟩).flatMap PartW.cells)
        rw [hcells, List.length_set]
        exact own_turned hv0.row hT (fun g e => hne (hv0.own g e) (by simp))
      · show ownPart o w w' v.name kk g = _
        rw [ho _ (hx (hv0.own g e))]
        exact hv0.own g e
      · replace hj : (v.ps.set kk ⟨p.lb, p.db, P'⟩)[j]? = some q := hj
        rw [List.getElem?_set] at hj
        split at hj
        · rename_i e
          subst e
          cases hj
          exact ⟨hl.more hw, hlo⟩
        · rename_i e
          obtain ⟨a1, a2⟩ := hv0.log j q hj
          exact ⟨(a1.turned hT (fun i _ hq => hne hq (by simp; exact fun e2 => e e2.symm))).more (fun i _ hq => (ho i (hx hq)).trans hq), a2.mono (Nat.le_succ N)⟩
      · replace hj : (v.ps.set kk ⟨p.lb, p.db, P'⟩)[j]? = some q := hj
        rw [List.getElem?_set] at hj
        split at hj
        · rename_i e
          subst e
          cases hj
          exact ⟨hd.more hw, hdo⟩
        · rename_i e
          obtain ⟨a1, a2⟩ := hv0.ded j q hj
          exact ⟨((a1.turned hT (fun i _ hq => hne hq (by simp; exact fun e2 => e e2.symm))).more (fun i _ hq => (ho i (hx hq)).trans hq)).mono (Nat.le_succ N), a2⟩
    · rw [if_neg hn]
      have h2 := hv0.turned hT (fun i hi hq => by
        rcases hq with ⟨k, hq⟩ | hq
        · exact hne hq (by simp; exact fun e => absurd e hn)
        · exact hne hq (by simp))
      refine ⟨h2.row, fun g e => ?_, h2.few, h2.short, fun j q hj => ⟨(h2.log j q hj).1.more (fun i _ hq => (ho i (hx hq)).trans hq), (h2.log j q hj).2.mono (Nat.le_succ N)⟩, fun j q hj => ⟨((h2.ded j q hj).1.more (fun i _ hq => (ho i (hx hq)).trans hq)).mono (Nat.le_succ N), (h2.ded j q hj).2⟩⟩
      rw [ho _ (hx (h2.own g e))]
      exact h2.own g e
  · have hpw := List.pairwise_map.1 (show (S.V.map (fun t => t.name)).Pairwise (fun a b => bytesBefore (namL a) (namL b) = true) from List.pairwise_map.2 h.sorted)
    unfold Sorted setW
    rw [List.pairwise_map]
    refine hpw.imp (fun {a b} hab => ?_)
    have e : ∀ a : TopW, (if a.name = t.name then (⟨a.name, a.v, a.ps.set kk ⟨p.lb, p.db, P'⟩⟩ : TopW) else a).name = a.name := fun a => by split <;> rfl
    rw [e, e]
    exact hab
  · unfold ownPart at hi
    split at hi
    · rename_i hc
      exact hc.2
    · exact Nat.lt_of_lt_of_le (h.lim i hi) hT.size
end Go.Proofs.YtjodiieeocaipaaGreatDoor
