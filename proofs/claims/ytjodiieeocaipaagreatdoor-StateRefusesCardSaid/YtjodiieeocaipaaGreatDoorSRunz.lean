import Derived.Test.YtjodiieeocaipaaGreatDoorSApps
import Derived.Test.YtjodiieeocaipaaGreatDoorAErr3
import Derived.Test.YtjodiieeocaipaaGreatDoorSProd
import Derived.Laws.StructEq
import Derived.Test.YtjodiieeocaipaaGreatDoorWithin
/-
  A State in a law's hands: what stands while it turns.
-/
namespace Go.Proofs.YtjodiieeocaipaaGreatDoor
open Go.RowKit Go.Maps
attribute [local go_sem ↓] ldB_eq stB_eq ldE_eq stE_eq ldD_eq stD_eq

/-- the State behind block s is M; it came since w0, as all that turned; the blocks of K are none of its own -/
def Run (w0 w : World) (s N : Nat) (M : StM) (K : Nat → Prop) : Prop :=
  ∃ (o : Nat → Option Who) (S : StW), StAt w o s N S ∧ S.m = M ∧ (∀ i, o i ≠ none → w0.heap.size ≤ i) ∧ (∀ i, K i → o i = none ∧ i < w.heap.size) ∧ Below w0.heap.size w0 w
theorem Run.below {w0 w : World} {s N : Nat} {M : StM} {K : Nat → Prop} (h : Run w0 w s N M K) : Below w0.heap.size w0 w := by
  obtain ⟨o, S, _, _, _, _, h⟩ := h
  exact h
theorem Run.ext {w0 w w' : World} {s N : Nat} {M : StM} {K : Nat → Prop} (h : Run w0 w s N M K) (hb : Below w.heap.size w w') : Run w0 w' s N M (fun i => K i ∨ (w.heap.size ≤ i ∧ i < w'.heap.size)) := by
  obtain ⟨o, S, h1, h2, h3, h4, h5⟩ := h
  refine ⟨o, S, h1.ext hb, h2, h3, fun i hi => ?_, h5.trans (below_le h5.size hb)⟩
  rcases hi with hi | hi
  · exact ⟨(h4 i hi).1, Nat.lt_of_lt_of_le (h4 i hi).2 hb.size⟩
  · refine ⟨?_, hi.2⟩
    cases e : o i with
    | none => rfl
    | some x =>
      have := h1.lim i (by rw [e]; simp)
      omega
theorem Run.less {w0 w : World} {s N : Nat} {M : StM} {K K' : Nat → Prop} (h : Run w0 w s N M K) (hk : ∀ i, K' i → K i) : Run w0 w s N M K' := by
  obtain ⟨o, S, h1, h2, h3, h4, h5⟩ := h
  exact ⟨o, S, h1, h2, h3, fun i hi => h4 i (hk i hi), h5⟩
theorem Run.more {w0 w : World} {s N N' : Nat} {M : StM} {K : Nat → Prop} (h : Run w0 w s N M K) (hn : N ≤ N') : Run w0 w s N' M K := by
  obtain ⟨o, S, h1, h2, h3, h4, h5⟩ := h
  exact ⟨o, S, h1.mono hn, h2, h3, h4, h5⟩
/-- a kept block turned -/
theorem Run.turned {w0 w w' : World} {s N : Nat} {M : StM} {K Q : Nat → Prop} (h : Run w0 w s N M K) (hT : Turned Q w w') (hQ : ∀ i, i < w.heap.size → Q i → K i ∧ w0.heap.size ≤ i) : Run w0 w' s N M K := by
  obtain ⟨o, S, h1, h2, h3, h4, h5⟩ := h
  refine ⟨o, S, h1.turned hT (fun i hi ho hq => ho (h4 i (hQ i hi hq).1).1), h2, h3, fun i hi => ⟨(h4 i hi).1, Nat.lt_of_lt_of_le (h4 i hi).2 hT.size⟩, ?_⟩
  exact ⟨hT.os.trans h5.os, hT.tape.trans h5.tape, hT.output.trans h5.output, Nat.le_trans h5.size hT.size, fun i hi => (hT.block i (Nat.lt_of_lt_of_le hi h5.size) (fun hq => by have := (hQ i (Nat.lt_of_lt_of_le hi h5.size) hq).2; omega)).trans (h5.block i hi)⟩
theorem run_new (w : World) : Calls Tryz.prog 10 #[] w fun e w' => ∃ s, e = .returned (.pointer (some ⟨s, 0, none⟩)) ∧ Run w w' s 0 newSt (fun _ => False) :=
  (stNew_any w).mono fun _ _ ⟨s, o, S, h1, h2, h3, h4, h5⟩ => ⟨s, h1, o, S, h3, h2, h4, fun _ hi => hi.elim, h5⟩
theorem run_step {w0 w : World} {s N : Nat} {M M' : StM} {K : Nat → Prop} (h : Run w0 w s N M K) (hN : N ≤ 900000) (e : Ent) (A : Option Addr) (n c : Nat) (hrd : RdT w A n c e.bat.vals) (stripe at_ : Int) {D : DoneM} {k : Int} (hM : applyM M e stripe at_ = (M', D, k)) :
    Calls Tryz.prog 11 #[.pointer (some ⟨s, 0, none⟩), .agg #[.int .i64 e.kind, .string e.topic, .string e.group, .int .i64 e.part, .int .i64 e.parts, .int .i64 e.first, .int .i64 e.off, .int .i64 e.bat.time, .int .i64 e.bat.prod, .int .i64 e.bat.seq, .slice A n c], .int .i64 stripe, .int .i64 at_] w
      fun er w' => ∃ v, er = .returned (.tuple #[.agg #[.int .i64 D.base, .int .i64 D.cnt, .bool D.again], v]) ∧ ErrV2 v k ∧ Run w0 w' s (N + 1) M' K ∧ Turned (fun i => w0.heap.size ≤ i ∧ ¬ K i) w w' := by
  obtain ⟨o, S, h1, rfl, h3, h4, h5⟩ := h
  refine (Apply_any h1 hN e A n c hrd stripe at_).mono ?_
  rintro er w' ⟨v, rfl, hv, ⟨o', S', a1, a2, a3⟩, hT⟩
  rw [hM] at hv a2 ⊢
  refine ⟨v, rfl, hv, ⟨o', S', a1, a2, fun i hi => ?_, fun i hi => ?_, ?_⟩, hT.more (fun i _ ho => ⟨h3 i ho, fun hk => ho (h4 i hk).1⟩)⟩
  · by_cases hw : i < w.heap.size
    · rw [a3 i hw] at hi
      exact h3 i hi
    · have := h5.size
      omega
  · exact ⟨by rw [a3 i (h4 i hi).2]; exact (h4 i hi).1, Nat.lt_of_lt_of_le (h4 i hi).2 hT.size⟩
  · exact hT.below h5 h5.size h3
theorem kindV {v : Value} {k : Int} (h : ErrV2 v k) (hk : k ≠ 0) (w : World) (hg : ErrLaid w) : Calls Tryz.prog 13 #[v] w fun e w' => e = .returned (.int .i64 k) ∧ Below w.heap.size w w' := by
  rcases h with ⟨h, _⟩ | ⟨_, d, hd, he⟩
  · exact absurd h hk
  · exact kind_err3 he (by omega) w hg
theorem Run.laid {w0 w : World} {s N : Nat} {M : StM} {K : Nat → Prop} (h : Run w0 w s N M K) (hl : ErrLaid w0) : ErrLaid w := ErrLaid.below hl h.below

/-! ### the model's own steps -/
theorem applyM_ok {M : StM} {e : Ent} {stripe at_ : Int} (h : rightE e = true) (h0 : 0 ≤ stripe) (h1 : 0 ≤ at_) : applyM M e stripe at_ = applyR M e stripe at_ := by
  unfold applyM
  rw [if_pos ⟨h, h0, h1⟩]
theorem find_set {T : TopM} {n m : ByteArray} {k : Int} {P : PartM} : findT (setT T n k P) m = if m = n then (findT T n).map (fun l => l.set k.toNat P) else findT T m := by
  unfold findT setT
  induction T with
  | nil => split <;> rfl
  | cons t r ih =>
    rw [List.map_cons, List.find?_cons, List.find?_cons]
    have e1 : (if t.1 = n then (t.1, t.2.set k.toNat P) else t).1 = t.1 := by split <;> rfl
    rw [e1]
    by_cases hm : t.1 = m
    · rw [decide_eq_true hm]
      dsimp only
      by_cases hn : m = n
      · subst hn
        rw [if_pos rfl, decide_eq_true hm, if_pos hm]
        rfl
      · rw [if_neg hn, List.find?_cons, decide_eq_true hm, if_neg (by rw [hm]; exact hn)]
    · rw [decide_eq_false hm]
      dsimp only
      rw [ih]
      by_cases hn : m = n
      · subst hn
        rw [if_pos rfl, if_pos rfl, decide_eq_false hm]
      · rw [if_neg hn, if_neg hn, List.find?_cons, decide_eq_false hm]
theorem part_set {T : TopM} {n : ByteArray} {k : Int} {P P' : PartM} (h : partT T n k = some P) : partT (setT T n k P') n k = some P' := by
  unfold partT at h ⊢
  split at h
  · rename_i hk
    rw [if_pos hk, find_set, if_pos rfl]
    cases hf : findT T n with
    | none => rw [hf] at h; cases h
    | some l =>
      rw [hf] at h
      replace h : l[k.toNat]? = some P := h
      show (l.set k.toNat P')[k.toNat]? = some P'
      rw [List.getElem?_set, if_pos rfl, if_pos (List.getElem?_eq_some_iff.1 h).1]
  · cases h
theorem has_find {T : TopM} {n : ByteArray} : hasT T n = (findT T n).isSome := by
  unfold hasT findT
  induction T with
  | nil => rfl
  | cons t r ih =>
    rw [List.any_cons, List.find?_cons]
    cases hd : decide (t.1 = n)
    · rw [Bool.false_or]; exact ih
    · rfl
theorem has_part {T : TopM} {n : ByteArray} {k : Int} {P : PartM} (h : partT T n k = some P) : hasT T n = true := by
  rw [has_find]
  unfold partT at h
  split at h
  · cases hf : findT T n with
    | none => rw [hf] at h; cases h
    | some l => rfl
  · cases h
theorem find_del {T : TopM} {n m : ByteArray} : findT (delT n T) m = if m = n then none else findT T m := by
  unfold findT delT
  induction T with
  | nil => split <;> rfl
  | cons t r ih =>
    by_cases hn : t.1 = n
    · rw [List.filter_cons_of_neg (by simp [hn]), ih, List.find?_cons]
      by_cases hm : m = n
      · rw [if_pos hm, if_pos hm]
      · rw [if_neg hm, if_neg hm, decide_eq_false (by rw [hn]; exact fun e => hm e.symm)]
    · rw [List.filter_cons_of_pos (by simp [hn]), List.find?_cons, List.find?_cons]
      by_cases hm : t.1 = m
      · rw [decide_eq_true hm, if_neg (by rw [← hm]; exact hn)]
      · rw [decide_eq_false hm]
        exact ih
theorem part_del {T : TopM} {n : ByteArray} {k : Int} : partT (delT n T) n k = none := by
  unfold partT
  rw [find_del, if_pos rfl]
  split <;> rfl
end Go.Proofs.YtjodiieeocaipaaGreatDoor

/-
  Two results of state.Apply, held against each other.
-/
namespace Go.Proofs.YtjodiieeocaipaaGreatDoor
open Go.RowKit Go.Maps

def eqDn (x y : Value) : Sem Value := binOp .eql 25 x y
theorem eqDn_eq (x y : Value) : binOp .eql 25 x y = eqDn x y := rfl
def guDn (a b : Operand) (x y : Value) : Sem Unit := eqGuard .eql 25 a b x y
theorem guDn_eq (a b : Operand) (x y : Value) : eqGuard .eql 25 a b x y = guDn a b x y := rfl
theorem eq_done1 (w : World) : (eqDn (.agg #[.int .i64 0, .int .i64 2, .bool false]) (.agg #[.int .i64 0, .int .i64 2, .bool false])).run Tryz.prog w = .ok (.bool true) w := by kernel_rfl
theorem eq_done2 (w : World) : (eqDn (.agg #[.int .i64 0, .int .i64 2, .bool true]) (.agg #[.int .i64 0, .int .i64 2, .bool true])).run Tryz.prog w = .ok (.bool true) w := by kernel_rfl
theorem gu_done (x y : Operand) (a b : Int) (c : Bool) (a' b' : Int) (c' : Bool) (w : World) : (guDn x y (.agg #[.int .i64 a, .int .i64 b, .bool c]) (.agg #[.int .i64 a', .int .i64 b', .bool c'])).run Tryz.prog w = .ok () w := run_eqGuard_agg w .eql _ _ _ _ _ (by kernel_rfl)
end Go.Proofs.YtjodiieeocaipaaGreatDoor

/-
  stavelaw21: StateRuns: what the model says of the runs; produce.
-/
namespace Go.Proofs.YtjodiieeocaipaaGreatDoor
open Go.RowKit Go.Maps
attribute [local go_sem ↓] ldB_eq stB_eq ldE_eq stE_eq ldD_eq stD_eq eqDn_eq guDn_eq

def tN : ByteArray := ⟨#[116]⟩
def entC (parts first : Int) : Ent := ⟨1, tN, nul, 0, parts, first, 0, noB⟩
def entD : Ent := ⟨2, tN, nul, 0, 0, 0, 0, noB⟩
def batP (q : Int) : Bat := ⟨0, 5, q, [⟨#[120]⟩, ⟨#[121]⟩]⟩
def entP (q : Int) : Ent := ⟨3, tN, nul, 0, 0, 0, 0, batP q⟩
theorem right_C : rightE (entC 1 0) = true := by decide
theorem right_D : rightE entD = true := by decide
theorem right_P0 : rightE (entP 0) = true := by decide
theorem right_P1 : rightE (entP 1) = true := by decide
theorem right_P2 : rightE (entP 2) = true := by decide
theorem app_P {M : StM} {q stripe at_ : Int} {P P' : PartM} {D : DoneM} {k : Int} (hr : rightE (entP q) = true) (h0 : 0 ≤ stripe) (h1 : 0 ≤ at_) (hp : partT M.top tN 0 = some P) (hm : prodM P (batP q) stripe at_ = (P', D, k)) :
    applyM M (entP q) stripe at_ = (⟨setT M.top tN 0 P', M.grp⟩, D, k) := by
  rw [applyM_ok hr h0 h1, app3 (e := entP q) rfl hp]
  show ((⟨setT M.top tN 0 (prodM P (batP q) stripe at_).1, M.grp⟩ : StM), (prodM P (batP q) stripe at_).2.1, (prodM P (batP q) stripe at_).2.2) = _
  rw [hm]
def P2 : PartM := ⟨addLog (newLog 0) 2 0 0 1, noteD (fun _ => none) 5 ⟨0, 0, 2⟩⟩
theorem prod1 : prodM (newPart 0) (batP 0) 0 1 = (P2, ⟨0, 2, false⟩, 0) := prodM_new (x := ⟨0, 0, 0⟩) (by rfl) (by rfl)
theorem prod2 : prodM P2 (batP 0) 0 2 = (P2, ⟨0, 2, true⟩, 0) := prodM_again (x := ⟨0, 0, 2⟩) (by rfl)
theorem prod3 : prodM P2 (batP 2) 0 3 = (P2, noDone, 12) := prodM_bad (x := ⟨0, 0, 0⟩) (ag := false) (by rfl) (by decide)
theorem app_P2 {M : StM} {q stripe at_ : Int} {P P' : PartM} {D : DoneM} {k : Int} (hr : rightE (entP q) = true) (h0 : 0 ≤ stripe) (h1 : 0 ≤ at_) (hp : partT M.top tN 0 = some P) (hm : prodM P (batP q) stripe at_ = (P', D, k)) :
    ∃ M', applyM M (entP q) stripe at_ = (M', D, k) ∧ partT M'.top tN 0 = some P' := ⟨_, app_P hr h0 h1 hp hm, part_set hp⟩
theorem app_D {M : StM} {stripe at_ : Int} {P : PartM} (h0 : 0 ≤ stripe) (h1 : 0 ≤ at_) (hp : partT M.top tN 0 = some P) : applyM M entD stripe at_ = (⟨delT tN M.top, lessOf tN M.grp⟩, noDone, 0) := by
  rw [applyM_ok right_D h0 h1, app2 (e := entD) rfl]
  show ((remM M tN).1, noDone, (remM M tN).2) = _
  unfold remM
  rw [if_pos (has_part hp)]
theorem runs_model : ∃ M1 M2 M3 M4 M5, applyM newSt (entC 1 0) 0 0 = (M1, noDone, 0) ∧ applyM M1 (entP 0) 0 1 = (M2, ⟨0, 2, false⟩, 0) ∧ applyM M2 (entP 0) 0 2 = (M3, ⟨0, 2, true⟩, 0) ∧ applyM M3 (entP 2) 0 3 = (M4, noDone, 12) ∧ applyM M4 entD 0 4 = (M5, noDone, 0) ∧ applyM M5 (entP 1) 0 5 = (M5, noDone, 10) := by
  have h1 : applyM newSt (entC 1 0) 0 0 = (⟨[(tN, [newPart 0])], .map []⟩, noDone, 0) := by
    rw [applyM_ok right_C (by decide) (by decide), app1 (e := entC 1 0) rfl]
    rfl
  have p1 : partT (⟨[(tN, [newPart 0])], .map []⟩ : StM).top tN 0 = some (newPart 0) := by simp [partT, findT]
  obtain ⟨M2, h2, p2⟩ := app_P2 (M := ⟨[(tN, [newPart 0])], .map []⟩) right_P0 (by decide) (by decide) p1 prod1
  obtain ⟨M3, h3, p3⟩ := app_P2 (M := M2) right_P0 (by decide) (by decide) p2 prod2
  obtain ⟨M4, h4, p4⟩ := app_P2 (M := M3) right_P2 (by decide) (by decide) p3 prod3
  refine ⟨_, M2, M3, M4, _, h1, h2, h3, h4, app_D (by decide) (by decide) p4, ?_⟩
  rw [applyM_ok right_P1 (by decide) (by decide)]
  exact app_none (by decide) (by decide) part_del _ _
theorem RdT.const (w : World) (l : List ByteArray) (C : Array Value) (hC : C = (l.map Value.string).toArray) (e : TypeId) (n : Nat) (hn : n = l.length) (hb : n ≤ 9223372036854775807) (g : Nat) (hg : g = w.heap.size) : RdT (w.alloc (.cells C e)) (some ⟨g, 0, none⟩) n n l := by
  subst hC hn hg
  refine ⟨List.length_map _, Nat.le_refl _, hb, fun k u hu => ⟨_, rfl, by simp, ?_⟩⟩
  rw [Addr.add_none, cell_of_row _ _ _ _ _ _ (heap_alloc_new w _), ← hu]
  simp
set_option maxRecDepth 100000 in
theorem lawProd_any (q : Int) (w : World) : Calls Tryz.prog 12 #[.int .i64 q] w fun e w' => ∃ A, e = .returned (.agg #[.int .i64 3, .string ⟨#[116]⟩, .string ⟨#[]⟩, .int .i64 0, .int .i64 0, .int .i64 0, .int .i64 0, .int .i64 0, .int .i64 5, .int .i64 q, .slice A 2 2]) ∧ RdT w' A 2 2 [⟨#[120]⟩, ⟨#[121]⟩] ∧ Below w.heap.size w w' := by
  have hb1 := below_new w (.cells #[.int .i64 0, .string ⟨#[]⟩, .string ⟨#[]⟩, .int .i64 0, .int .i64 0, .int .i64 0, .int .i64 0, .int .i64 0, .int .i64 0, .int .i64 0, .slice none 0 0] 34)
  have hk1 := Bk.made w 34 #[.int .i64 0, .string ⟨#[]⟩, .string ⟨#[]⟩, .int .i64 0, .int .i64 0, .int .i64 0, .int .i64 0, .int .i64 0, .int .i64 0, .int .i64 0, .slice none 0 0]
  have hs1 : (w.alloc (.cells #[.int .i64 0, .string ⟨#[]⟩, .string ⟨#[]⟩, .int .i64 0, .int .i64 0, .int .i64 0, .int .i64 0, .int .i64 0, .int .i64 0, .int .i64 0, .slice none 0 0] 34)).heap.size = w.heap.size + 1 := by simp
  have hb2 := below_new (w.alloc (.cells #[.int .i64 0, .string ⟨#[]⟩, .string ⟨#[]⟩, .int .i64 0, .int .i64 0, .int .i64 0, .int .i64 0, .int .i64 0, .int .i64 0, .int .i64 0, .slice none 0 0] 34)) (.cells #[.string ⟨#[120]⟩, .string ⟨#[121]⟩] 9)
  have hk2 := hk1.ext hb2
  have hst := stE_row hk2 rfl 3 ⟨#[116]⟩ ⟨#[]⟩ 0 0 0 0 0 5 q (some ⟨w.heap.size + 1, 0, none⟩) 2 2
  have hr := RdT.const (w.alloc (.cells #[.int .i64 0, .string ⟨#[]⟩, .string ⟨#[]⟩, .int .i64 0, .int .i64 0, .int .i64 0, .int .i64 0, .int .i64 0, .int .i64 0, .int .i64 0, .slice none 0 0] 34)) [⟨#[120]⟩, ⟨#[121]⟩] _ rfl 9 2 rfl (by omega) (w.heap.size + 1) hs1.symm
  have HB := Lib.hid (hb1.trans (below_le hb1.size hb2))
  have HK := Lib.hid hk2
  have HR := Lib.hid hr
  clear hb1 hk1 hs1 hb2 hk2 hr
  go_enter Tryz.func12, Tryz.ntmps12
  go_wp2_with fail
  refine bodyPost_ret (results_cell_row rfl _ _ w.heap.size _ _ (0, 0) _ rfl (HK.out.row _) Tryz.underlying34 rfl size_e) rfl ?_
  exact ⟨_, rfl, RdT.kept HR.out (grown_row _ _ _) (fun ad e e2 => by rw [← Option.some.inj e] at e2; have e3 : w.heap.size = w.heap.size + 1 := Option.some.inj e2; omega), below_row HB.out HB.out.size (Nat.le_refl _) _⟩

set_option maxRecDepth 100000 in
set_option maxHeartbeats 600000 in
theorem stRuns_any (w : World) (hl : ErrLaid w) : Calls Tryz.prog 3 #[] w fun e w' => e = .returned (.bool true) ∧ Below w.heap.size w w' := by
  obtain ⟨M1, M2, M3, M4, M5, m1, m2, m3, m4, m5, m6⟩ := runs_model
  have HN := Lib.hid (run_new w)
  have HLd := Lib.hid hl
  have G1 : Hid (applyM newSt (entC 1 0) 0 0 = (M1, ⟨0, 0, false⟩, 0)) := m1
  have G2 : Hid (applyM M1 (entP 0) 0 1 = (M2, ⟨0, 2, false⟩, 0)) := m2
  have G3 : Hid (applyM M2 (entP 0) 0 2 = (M3, ⟨0, 2, true⟩, 0)) := m3
  have G4 : Hid (applyM M3 (entP 2) 0 3 = (M4, ⟨0, 0, false⟩, 12)) := m4
  have G5 : Hid (applyM M4 entD 0 4 = (M5, ⟨0, 0, false⟩, 0)) := m5
  have G6 : Hid (applyM M5 (entP 1) 0 5 = (M5, ⟨0, 0, false⟩, 10)) := m6
  clear hl m1 m2 m3 m4 m5 m6
  go_enter Tryz.func3, Tryz.ntmps3
  go_wp2_with fail
  with_reducible refine HN.out.mono ?_
  rintro er w1 ⟨s, rfl, hr1⟩
  obtain ⟨X0, hX0⟩ : ∃ X, X = w1 := ⟨_, rfl⟩
  have R0 := Lib.hid hr1
  clear hr1
  subst hX0
  go_wp2_with fail
  refine (run_step R0.out (by omega) (entC 1 0) none 0 0 (RdT.nil _) 0 0 G1.out).mono ?_
  rintro er z1 ⟨v1, rfl, hv1, hr1, ht1⟩
  obtain rfl : v1 = .nilIface := by
    rcases hv1 with ⟨_, h⟩ | ⟨h, _⟩
    · exact h
    · exact absurd rfl h
  clear hv1
  have hbn1 := below_new z1 (.cells #[.int .i64 0, .int .i64 0, .bool false] 25)
  have hst1 := stD_row (Bk.made z1 25 #[.int .i64 0, .int .i64 0, .bool false]) rfl 0 0 false
  have hkn1 := (Bk.made z1 25 #[.int .i64 0, .int .i64 0, .bool false]).row #[.int .i64 0, .int .i64 0, .bool false]
  have hbx1 := below_row hbn1 hbn1.size (Nat.le_refl _) #[.int .i64 0, .int .i64 0, .bool false]
  have R1 := Lib.hid ((hr1.ext hbx1).less (K' := fun _ => False) (fun _ h => .inl h))
  clear hr1 ht1 hbn1 hkn1 hbx1 R0
  go_upto_region 5 with fail
  generalize (z1.alloc (.cells #[.int .i64 0, .int .i64 0, .bool false] 25)).setRow z1.heap.size #[.int .i64 0, .int .i64 0, .bool false] = X1 at R1 ⊢
  go_wp2_with fail
  with_reducible refine (lawProd_any 0 _).mono ?_
  rintro er y2 ⟨A2, rfl, hrd2, hb2⟩
  have HRd2 := Lib.hid hrd2
  have HB2 := Lib.hid hb2
  have RY2 := Lib.hid ((R1.out.ext hb2).less (fun _ h => .inl h))
  clear hrd2 hb2
  go_wp2_with fail
  refine (run_step RY2.out (by omega) (entP 0) A2 2 2 HRd2.out 0 1 G2.out).mono ?_
  rintro er z2 ⟨v2, rfl, hv2, hr2, ht2⟩
  obtain rfl : v2 = .nilIface := by
    rcases hv2 with ⟨_, h⟩ | ⟨h, _⟩
    · exact h
    · exact absurd rfl h
  clear hv2
  have hbn2 := below_new z2 (.cells #[.int .i64 0, .int .i64 0, .bool false] 25)
  have hst2 := stD_row (Bk.made z2 25 #[.int .i64 0, .int .i64 0, .bool false]) rfl 0 2 false
  have hkn2 := (Bk.made z2 25 #[.int .i64 0, .int .i64 0, .bool false]).row #[.int .i64 0, .int .i64 2, .bool false]
  have hbx2 := below_row hbn2 hbn2.size (Nat.le_refl _) #[.int .i64 0, .int .i64 2, .bool false]
  have hlt2 : z2.heap.size < ((z2.alloc (.cells #[.int .i64 0, .int .i64 0, .bool false] 25)).setRow z2.heap.size #[.int .i64 0, .int .i64 2, .bool false]).heap.size := hkn2.lt
  have R2 := Lib.hid ((hr2.ext hbx2).less (K' := fun i => i = z2.heap.size) (fun i h => by subst h; exact .inr ⟨Nat.le_refl _, hlt2⟩))
  have KA2 := Lib.hid hkn2
  clear hlt2
  clear hr2 ht2 hbn2 hkn2 hbx2 R1 RY2 HRd2 HB2
  go_upto_region 6 with fail
  generalize (z2.alloc (.cells #[.int .i64 0, .int .i64 0, .bool false] 25)).setRow z2.heap.size #[.int .i64 0, .int .i64 2, .bool false] = X2 at R2 KA2 ⊢
  go_wp2_with fail
  with_reducible refine (lawProd_any 0 _).mono ?_
  rintro er y3 ⟨A3, rfl, hrd3, hb3⟩
  have HRd3 := Lib.hid hrd3
  have HB3 := Lib.hid hb3
  have RY3 := Lib.hid ((R2.out.ext hb3).less (fun _ h => .inl h))
  clear hrd3 hb3
  go_wp2_with fail
  refine (run_step RY3.out (by omega) (entP 0) A3 2 2 HRd3.out 0 2 G3.out).mono ?_
  rintro er z3 ⟨v3, rfl, hv3, hr3, ht3⟩
  obtain rfl : v3 = .nilIface := by
    rcases hv3 with ⟨_, h⟩ | ⟨h, _⟩
    · exact h
    · exact absurd rfl h
  clear hv3
  have hbn3 := below_new z3 (.cells #[.int .i64 0, .int .i64 0, .bool false] 25)
  have hst3 := stD_row (Bk.made z3 25 #[.int .i64 0, .int .i64 0, .bool false]) rfl 0 2 true
  have hkn3 := (Bk.made z3 25 #[.int .i64 0, .int .i64 0, .bool false]).row #[.int .i64 0, .int .i64 2, .bool true]
  have hbx3 := below_row hbn3 hbn3.size (Nat.le_refl _) #[.int .i64 0, .int .i64 2, .bool true]
  have KA2n := ((KA2.out.ext HB3.out).turned ht3 (fun hx => hx.2 (by simp))).ext hbx3
  have KA2p := Lib.hid KA2n
  clear KA2n
  have hlt3 : z3.heap.size < ((z3.alloc (.cells #[.int .i64 0, .int .i64 0, .bool false] 25)).setRow z3.heap.size #[.int .i64 0, .int .i64 2, .bool true]).heap.size := hkn3.lt
  have R3 := Lib.hid ((hr3.ext hbx3).less (K' := fun i => i = z2.heap.size ∨ i = z3.heap.size) (fun i h => by rcases h with rfl | rfl; exact .inl (by simp); exact .inr ⟨Nat.le_refl _, hlt3⟩))
  have KA3 := Lib.hid hkn3
  clear hlt3
  clear hr3 ht3 hbn3 hkn3 hbx3 R2 RY3 HRd3 HB3
  clear KA2
  go_upto_region 7 with fail
  generalize (z3.alloc (.cells #[.int .i64 0, .int .i64 0, .bool false] 25)).setRow z3.heap.size #[.int .i64 0, .int .i64 2, .bool true] = X3 at R3 KA2p KA3 ⊢
  go_wp2_with fail
  with_reducible refine (lawProd_any 2 _).mono ?_
  rintro er y4 ⟨A4, rfl, hrd4, hb4⟩
  have HRd4 := Lib.hid hrd4
  have HB4 := Lib.hid hb4
  have RY4 := Lib.hid ((R3.out.ext hb4).less (fun _ h => .inl h))
  clear hrd4 hb4
  go_wp2_with fail
  refine (run_step RY4.out (by omega) (entP 2) A4 2 2 HRd4.out 0 3 G4.out).mono ?_
  rintro er z4 ⟨v4, rfl, hv4, hr4, ht4⟩
  have HV4 := Lib.hid hv4
  clear hv4
  have hbn4 := below_new z4 (.cells #[.int .i64 0, .int .i64 0, .bool false] 25)
  have hst4 := stD_row (Bk.made z4 25 #[.int .i64 0, .int .i64 0, .bool false]) rfl 0 0 false
  have hkn4 := (Bk.made z4 25 #[.int .i64 0, .int .i64 0, .bool false]).row #[.int .i64 0, .int .i64 0, .bool false]
  have hbx4 := below_row hbn4 hbn4.size (Nat.le_refl _) #[.int .i64 0, .int .i64 0, .bool false]
  have KA2pn := ((KA2p.out.ext HB4.out).turned ht4 (fun hx => hx.2 (by simp))).ext hbx4
  have KA2pp := Lib.hid KA2pn
  clear KA2pn
  have KA3n := ((KA3.out.ext HB4.out).turned ht4 (fun hx => hx.2 (by simp))).ext hbx4
  have KA3p := Lib.hid KA3n
  clear KA3n
  have R4 := Lib.hid ((hr4.ext hbx4).less (K' := fun i => i = z2.heap.size ∨ i = z3.heap.size) (fun _ h => .inl h))
  clear hr4 ht4 hbn4 hkn4 hbx4 R3 RY4 HRd4 HB4
  clear KA2p
  clear KA3
  go_upto_region 8 with fail
  generalize (z4.alloc (.cells #[.int .i64 0, .int .i64 0, .bool false] 25)).setRow z4.heap.size #[.int .i64 0, .int .i64 0, .bool false] = X4 at R4 KA2pp KA3p ⊢
  go_wp2_with fail
  refine (run_step R4.out (by omega) (entD) none 0 0 (RdT.nil _) 0 4 G5.out).mono ?_
  rintro er z5 ⟨v5, rfl, hv5, hr5, ht5⟩
  obtain rfl : v5 = .nilIface := by
    rcases hv5 with ⟨_, h⟩ | ⟨h, _⟩
    · exact h
    · exact absurd rfl h
  clear hv5
  have hbn5 := below_new z5 (.cells #[.int .i64 0, .int .i64 0, .bool false] 25)
  have hst5 := stD_row (Bk.made z5 25 #[.int .i64 0, .int .i64 0, .bool false]) rfl 0 0 false
  have hkn5 := (Bk.made z5 25 #[.int .i64 0, .int .i64 0, .bool false]).row #[.int .i64 0, .int .i64 0, .bool false]
  have hbx5 := below_row hbn5 hbn5.size (Nat.le_refl _) #[.int .i64 0, .int .i64 0, .bool false]
  have KA2ppn := (KA2pp.out.turned ht5 (fun hx => hx.2 (by simp))).ext hbx5
  have KA2ppp := Lib.hid KA2ppn
  clear KA2ppn
  have KA3pn := (KA3p.out.turned ht5 (fun hx => hx.2 (by simp))).ext hbx5
  have KA3pp := Lib.hid KA3pn
  clear KA3pn
  have R5 := Lib.hid ((hr5.ext hbx5).less (K' := fun i => i = z2.heap.size ∨ i = z3.heap.size) (fun _ h => .inl h))
  clear hr5 ht5 hbn5 hkn5 hbx5 R4
  clear KA2pp
  clear KA3p
  go_upto_region 9 with fail
  generalize (z5.alloc (.cells #[.int .i64 0, .int .i64 0, .bool false] 25)).setRow z5.heap.size #[.int .i64 0, .int .i64 0, .bool false] = X5 at R5 KA2ppp KA3pp ⊢
  go_wp2_with fail
  with_reducible refine (lawProd_any 1 _).mono ?_
  rintro er y6 ⟨A6, rfl, hrd6, hb6⟩
  have HRd6 := Lib.hid hrd6
  have HB6 := Lib.hid hb6
  have RY6 := Lib.hid ((R5.out.ext hb6).less (fun _ h => .inl h))
  clear hrd6 hb6
  go_wp2_with fail
  refine (run_step RY6.out (by omega) (entP 1) A6 2 2 HRd6.out 0 5 G6.out).mono ?_
  rintro er z6 ⟨v6, rfl, hv6, hr6, ht6⟩
  have HV6 := Lib.hid hv6
  clear hv6
  have hbn6 := below_new z6 (.cells #[.int .i64 0, .int .i64 0, .bool false] 25)
  have hst6 := stD_row (Bk.made z6 25 #[.int .i64 0, .int .i64 0, .bool false]) rfl 0 0 false
  have hkn6 := (Bk.made z6 25 #[.int .i64 0, .int .i64 0, .bool false]).row #[.int .i64 0, .int .i64 0, .bool false]
  have hbx6 := below_row hbn6 hbn6.size (Nat.le_refl _) #[.int .i64 0, .int .i64 0, .bool false]
  have KA2pppn := ((KA2ppp.out.ext HB6.out).turned ht6 (fun hx => hx.2 (by simp))).ext hbx6
  have KA2pppp := Lib.hid KA2pppn
  clear KA2pppn
  have KA3ppn := ((KA3pp.out.ext HB6.out).turned ht6 (fun hx => hx.2 (by simp))).ext hbx6
  have KA3ppp := Lib.hid KA3ppn
  clear KA3ppn
  have R6 := Lib.hid ((hr6.ext hbx6).less (K' := fun i => i = z2.heap.size ∨ i = z3.heap.size) (fun _ h => .inl h))
  clear hr6 ht6 hbn6 hkn6 hbx6 R5 RY6 HRd6 HB6
  clear KA2ppp
  clear KA3pp
  go_upto_region 10 with fail
  generalize (z6.alloc (.cells #[.int .i64 0, .int .i64 0, .bool false] 25)).setRow z6.heap.size #[.int .i64 0, .int .i64 0, .bool false] = X6 at R6 KA2pppp KA3ppp ⊢
  have hld2 := ldD_bk KA2pppp.out
  have hld3 := ldD_bk KA3ppp.out
  have he1 := eq_done1 X6
  have he2 := eq_done2 X6
  have hg1 := gu_done (.tmp 60) (.tmp 61) 0 2 false 0 2 false X6
  have hg2 := gu_done (.tmp 69) (.tmp 70) 0 2 true 0 2 true X6
  have HL6 := Lib.hid (R6.out.laid HLd.out)
  clear hst1 hst2 hst3 hst4 hst5 hst6
  have HK4 := Lib.hid (kindV HV4.out (by decide) X6 HL6.out)
  go_wp2_with fail
  with_reducible refine HK4.out.mono ?_
  rintro er x1 ⟨rfl, hx1⟩
  have HX1 := Lib.hid hx1
  have HK6 := Lib.hid (kindV HV6.out (by decide) x1 (ErrLaid.below HL6.out hx1))
  clear hx1
  go_wp2_with fail
  with_reducible refine HK6.out.mono ?_
  rintro er x2 ⟨rfl, hx2⟩
  have HX2 := Lib.hid hx2
  clear hx2
  go_wp2_with fail
  go_ret
  exact ⟨rfl, (R6.out.below.trans (below_le R6.out.below.size HX1.out)).trans (below_le (Nat.le_trans R6.out.below.size HX1.out.size) HX2.out)⟩
end Go.Proofs.YtjodiieeocaipaaGreatDoor

/-
  stavelaw21: StateOnce: what the model says of a producer's batches sent in whatever order; the list of numbers; a partition's log.
-/
namespace Go.Proofs.YtjodiieeocaipaaGreatDoor
open Go.ChangeShapes Go.WideShapes Go.ChangeAt Go.RowKit Go.Maps

/-- a slice of numbers reads as l -/
def RdI (w : World) (A : Option Addr) (n c : Nat) (l : List Int) : Prop := Rd w w.heap.size A n c (l.map (Value.int .i64)) ∧ ∀ z ∈ l, -9223372036854775808 ≤ z ∧ z ≤ 9223372036854775807
theorem RdI.ext {w w' : World} {A : Option Addr} {n c : Nat} {l : List Int} (h : RdI w A n c l) (hb : Below w.heap.size w w') : RdI w' A n c l := ⟨Rd.ext h.1 hb, h.2⟩
theorem cells_i : Tryz.prog.cellsOf 3 = 1 := by kernel_rfl
set_option maxRecDepth 100000 in
theorem Came.ints {H : Type} {enc : TypeId × Value → H} {W : World} {base : Nat} {v : Value} {d : DataW H} {p : List MemPlace} (h : Came enc W base 47 v d p) : ∃ A n c l, v = .slice A n c ∧ RdI W A n c l := by
  obtain ⟨A, n, c, rfl⟩ := okWide_slice Tryz.underlying47 h.1
  obtain ⟨fuel, hf⟩ := h.2
  rcases open_ints Tryz.underlying47 Tryz.underlying3 cells_i hf with ⟨hcs, _⟩ | ⟨x, l, c', zs, hcs, _, hl, hm, hz, _, hcell, hwz⟩
  · simp [Value.cells] at hcs
    obtain ⟨rfl, rfl, rfl⟩ := hcs
    exact ⟨none, 0, 0, [], rfl, Rd.nil W _, fun z hz => absurd hz List.not_mem_nil⟩
  · simp [Value.cells] at hcs
    obtain ⟨rfl, rfl, rfl⟩ := hcs
    have hz : zs.length = c := by simpa using hz
    refine ⟨_, _, _, zs.take n, rfl, ⟨by simp; omega, hl, by unfold maxLen at hm; exact hm, fun k u hu => ?_⟩, fun z hz' => wf_i64 (hwz z (List.mem_of_mem_take hz'))⟩
    have hk : k < n := by
      have := (List.getElem?_eq_some_iff.1 hu).1
      simp at this; omega
    have hc := hcell k (by omega)
    refine ⟨x, rfl, ?_, ?_⟩
    · have := cell_lt hc
      rwa [add_block] at this
    · have hkz : k < zs.length := by omega
      rw [hc, ← hu]
      simp only [List.getD_eq_getElem?_getD, Option.getD_some, List.getElem?_map, List.getElem?_take, if_pos hk, List.getElem?_eq_getElem hkz, Option.map_some]

/-- the partition after nx batches of two -/
structure OnceP (P : PartM) (nx : Nat) : Prop where
  next : P.log.next = 10 + 2 * nx
  len : P.log.heads.length = nx
  ded : P.ded 5 = if nx = 0 then none else some ⟨(nx : Int) - 1, 10 + 2 * ((nx : Int) - 1), 2⟩
theorem once_start : OnceP (newPart 10) 0 := ⟨rfl, rfl, rfl⟩
theorem right_Pall : ((List.range 60).all fun m => rightE (entP m)) = true := by decide +kernel
theorem right_Pm {m : Int} (h0 : 0 ≤ m) (h1 : m < 60) : rightE (entP m) = true := by
  have := List.all_eq_true.1 right_Pall m.toNat (List.mem_range.2 (by omega))
  rwa [Int.toNat_of_nonneg h0] at this
theorem right_C10 {p : Int} (h0 : 1 ≤ p) (h1 : p ≤ 3) : rightE (entC p 10) = true := by
  obtain rfl | rfl | rfl : p = 1 ∨ p = 2 ∨ p = 3 := by omega
  · decide
  · decide
  · decide
theorem ask_once {P : PartM} {nx : Nat} (h : OnceP P nx) (m : Int) (h0 : 0 ≤ m) (h1 : m ≤ 1000) : askD P.ded 5 m = if m = nx then (⟨0, 0, 0⟩, false, 0) else if m = (nx : Int) - 1 then (⟨(nx : Int) - 1, 10 + 2 * ((nx : Int) - 1), 2⟩, true, 0) else (⟨0, 0, 0⟩, false, 12) := by
  unfold askD
  rw [if_neg (by decide), if_neg (by omega), h.ded]
  by_cases hn : nx = 0
  · rw [if_pos hn]
    subst hn
    show (if m = 0 then _ else _) = _
    by_cases hm : m = 0
    · rw [if_pos hm, if_pos (by omega)]
    · rw [if_neg hm, if_neg (by omega), if_neg (by omega)]
  · rw [if_neg hn]
    show (if m = (nx : Int) - 1 then _ else if m = (nx : Int) - 1 + 1 then _ else _) = _
    by_cases hm : m = nx
    · rw [if_neg (by omega), if_pos (by omega), if_pos hm]
    · by_cases hm2 : m = (nx : Int) - 1
      · rw [if_pos hm2, if_neg hm, if_pos hm2]
      · rw [if_neg hm2, if_neg (by omega), if_neg hm, if_neg hm2]
theorem once_new {P : PartM} {nx : Nat} (h : OnceP P nx) (hn : nx ≤ 60) (at_ : Int) (ha : 0 ≤ at_) : ∃ P', prodM P (batP nx) 0 at_ = (P', ⟨10 + 2 * nx, 2, false⟩, 0) ∧ OnceP P' (nx + 1) := by
  have hask := ask_once h nx (by omega) (by omega)
  rw [if_pos rfl] at hask
  have hbad : addBad P.log 2 0 0 at_ = 0 := by
    unfold addBad addOk maxI
    rw [h.next, if_neg (by simp [ha]), if_neg (by omega)]
  have hp := prodM_new (L := P.log) (d := P.ded) (b := batP nx) (stripe := 0) (at_ := at_) hask hbad
  rw [h.next] at hp
  refine ⟨_, hp, ⟨?_, ?_, ?_⟩⟩
  · show P.log.next + 2 = _
    rw [h.next]
    omega
  · show (P.log.heads ++ [_]).length = nx + 1
    simp [h.len]
  · rw [if_neg (by omega)]
    show (noteD P.ded 5 ⟨(nx : Int), 10 + 2 * (nx : Int), 2⟩) 5 = _
    unfold noteD
    rw [if_neg (by decide)]
    show (if (5 : Int) = 5 then _ else _) = _
    rw [if_pos rfl]
    congr 2
    · omega
    · omega
theorem once_again {P : PartM} {nx : Nat} (h : OnceP P nx) (hn : nx ≤ 60) (at_ : Int) {m : Int} (hm : m = (nx : Int) - 1) (h0 : 0 ≤ m) : prodM P (batP m) 0 at_ = (P, ⟨10 + 2 * ((nx : Int) - 1), 2, true⟩, 0) := by
  have hask := ask_once h m h0 (by omega)
  rw [if_neg (by omega), if_pos hm] at hask
  exact prodM_again (L := P.log) (d := P.ded) (b := batP m) hask
theorem once_bad {P : PartM} {nx : Nat} (h : OnceP P nx) (at_ : Int) {m : Int} (h0 : 0 ≤ m) (h1 : m ≤ 1000) (hm : m ≠ nx) (hm2 : m ≠ (nx : Int) - 1) : prodM P (batP m) 0 at_ = (P, noDone, 12) := by
  have hask := ask_once h m h0 h1
  rw [if_neg hm, if_neg hm2] at hask
  exact prodM_bad (L := P.log) (d := P.ded) (b := batP m) hask (by decide)
theorem once_first {p : Int} (h0 : 1 ≤ p) (h1 : p ≤ 3) : ∃ M, applyM newSt (entC p 10) 0 0 = (M, ⟨0, 0, false⟩, 0) ∧ partT M.top tN 0 = some (newPart 10) := by
  refine ⟨⟨[(tN, List.replicate p.toNat (newPart 10))], .map []⟩, ?_, ?_⟩
  · rw [applyM_ok (right_C10 h0 h1) (by decide) (by decide), app1 (e := entC p 10) rfl]
    rfl
  · obtain rfl | rfl | rfl : p = 1 ∨ p = 2 ∨ p = 3 := by omega
    · simp [partT, findT]
    · simp [partT, findT, List.replicate]
    · simp [partT, findT, List.replicate]

/-- the log of a partition that is there -/
theorem run_log {w0 w : World} {s N : Nat} {M : StM} {K : Nat → Prop} (h : Run w0 w s N M K) (n : ByteArray) (hn : n.size ≤ 1000) (k : Int) {P : PartM} (hp : partT M.top n k = some P) :
    Calls Tryz.prog 17 #[.pointer (some ⟨s, 0, none⟩), .string n, .int .i64 k] w fun e w' => ∃ (lb : Nat) (Q : Nat → Prop), e = .returned (.pointer (some ⟨lb, 0, none⟩)) ∧ LogAt w Q lb P.log ∧ (∀ i, Q i → ¬ K i) ∧ w = w' := by
  obtain ⟨o, S, h1, rfl, h3, h4, h5⟩ := h
  refine (stLog_any h1 n hn k).mono ?_
  rintro e w' ⟨hr, hw⟩
  rcases hr with ⟨hno, _⟩ | ⟨t, kk, p, a1, a2, a3, a4, a5, rfl⟩
  · rw [hp] at hno
    cases hno
  · rw [hp] at a5
    obtain rfl := Option.some.inj a5
    exact ⟨p.lb, _, rfl, ((h1.tops t a1).log kk p a4).1, fun i hq hk => (by replace hq : o i = some _ := hq; rw [(h4 i hk).1] at hq; cases hq), hw⟩
end Go.Proofs.YtjodiieeocaipaaGreatDoor
