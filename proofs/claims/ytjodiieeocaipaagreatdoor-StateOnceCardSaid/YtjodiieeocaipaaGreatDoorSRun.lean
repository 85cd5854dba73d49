/-
  A State in a law's hands: what stands while it turns.
-/
import Derived.Test.YtjodiieeocaipaaGreatDoorSApps
import Derived.Test.YtjodiieeocaipaaGreatDoorAErr3
namespace Go.Proofs.YtjodiieeocaipaaGreatDoor
open Go.RowKit Go.Maps
attribute [local go_sem ↓] ldB_eq stB_eq ldE_eq stE_eq ldD_eq stD_eq

/-- the State behind block s is M; it came since w0, as all that turned; the blocks of K are none of its own -/
def Run (w0 w : World) (s N : Nat) (M : StM) (K : Nat → Prop) : Prop :=
  ∃ (o : Nat → Option Who) (S : StW), StAt w o s N S ∧ S.m = M ∧ (∀ i, o i ≠ none → w0.heap.size ≤ i) ∧ (∀ i, K i → o i = none ∧ i < w.heap.size) ∧ Below w0.heap.size w0 w
theorem Run.below {w0 w : World} {s N : Nat} {M : StM} {K : Nat → Prop} (h : Run w0 w s N M K) : Below w0.heap.size w0 w := by
  obtain ⟨o, S, _, _, _, _, h⟩ := h
  exact h
theorem Run.ext {w0 w w' : World} {s N : Nat} {M : StM} {K : Nat → Prop} (h : Run w0 w s N M K) (hb : Below w.heap.size w w') : Run w0 w' s N M (fun i => K i ∨ (w.heap.size ≤ i ∧ i < w'.heap.size)) := by
  obtain ⟨o, S, h1, h2, h3, h4, h5⟩ := h
  refine ⟨o, S, h1.ext hb, h2, h3, fun i hi => ?_, h5.trans (below_le h5.size hb)⟩
  rcases hi with hi | hi
  · exact ⟨(h4 i hi).1, Nat.lt_of_lt_of_le (h4 i hi).2 hb.size⟩
  · refine ⟨?_, hi.2⟩
    cases e : o i with
    | none => rfl
    | some x =>
      have := h1.lim i (by rw [e]; simp)
      omega
theorem Run.less {w0 w : World} {s N : Nat} {M : StM} {K K' : Nat → Prop} (h : Run w0 w s N M K) (hk : ∀ i, K' i → K i) : Run w0 w s N M K' := by
  obtain ⟨o, S, h1, h2, h3, h4, h5⟩ := h
  exact ⟨o, S, h1, h2, h3, fun i hi => h4 i (hk i hi), h5⟩
theorem Run.more {w0 w : World} {s N N' : Nat} {M : StM} {K : Nat → Prop} (h : Run w0 w s N M K) (hn : N ≤ N') : Run w0 w s N' M K := by
  obtain ⟨o, S, h1, h2, h3, h4, h5⟩ := h
  exact ⟨o, S, h1.mono hn, h2, h3, h4, h5⟩
/-- a kept block turned -/
theorem Run.turned {w0 w w' : World} {s N : Nat} {M : StM} {K Q : Nat → Prop} (h : Run w0 w s N M K) (hT : Turned Q w w') (hQ : ∀ i, i < w.heap.size → Q i → K i ∧ w0.heap.size ≤ i) : Run w0 w' s N M K := by
  obtain ⟨o, S, h1, h2, h3, h4, h5⟩ := h
  refine ⟨o, S, h1.turned hT (fun i hi ho hq => ho (h4 i (hQ i hi hq).1).1), h2, h3, fun i hi => ⟨(h4 i hi).1, Nat.lt_of_lt_of_le (h4 i hi).2 hT.size⟩, ?_⟩
  exact ⟨hT.os.trans h5.os, hT.tape.trans h5.tape, hT.output.trans h5.output, Nat.le_trans h5.size hT.size, fun i hi => (hT.block i (Nat.lt_of_lt_of_le hi h5.size) (fun hq => by have := (hQ i (Nat.lt_of_lt_of_le hi h5.size) hq).2; omega)).trans (h5.block i hi)⟩
theorem run_new (w : World) : Calls Tryz.prog 10 #[] w fun e w' => ∃ s, e = .returned (.pointer (some ⟨s, 0, none⟩)) ∧ Run w w' s 0 newSt (fun _ => False) :=
  (stNew_any w).mono fun _ _ ⟨s, o, S, h1, h2, h3, h4, h5⟩ => ⟨s, h1, o, S, h3, h2, h4, fun _ hi => hi.elim, h5⟩
theorem run_step {w0 w : World} {s N : Nat} {M M' : StM} {K : Nat → Prop} (h : Run w0 w s N M K) (hN : N ≤ 900000) (e : Ent) (A : Option Addr) (n c : Nat) (hrd : RdT w A n c e.bat.vals) (stripe at_ : Int) {D : DoneM} {k : Int} (hM : applyM M e stripe at_ = (M', D, k)) :
    Calls Tryz.prog 11 #[.pointer (some ⟨s, 0, none⟩), .agg #[.int .i64 e.kind, .string e.topic, .string e.group, .int .i64 e.part, .int .i64 e.parts, .int .i64 e.first, .int .i64 e.off, .int .i64 e.bat.time, .int .i64 e.bat.prod, .int .i64 e.bat.seq, .slice A n c], .int .i64 stripe, .int .i64 at_] w
      fun er w' => ∃ v, er = .returned (.tuple #[.agg #[.int .i64 D.base, .int .i64 D.cnt, .bool D.again], v]) ∧ ErrV2 v k ∧ Run w0 w' s (N + 1) M' K ∧ Turned (fun i => w0.heap.size ≤ i ∧ ¬ K i) w w' := by
  obtain ⟨o, S, h1, rfl, h3, h4, h5⟩ := h
  refine (Apply_any h1 hN e A n c hrd stripe at_).mono ?_
  rintro er w' ⟨v, rfl, hv, ⟨o', S', a1, a2, a3⟩, hT⟩
  rw [hM] at hv a2 ⊢
  refine ⟨v, rfl, hv, ⟨o', S', a1, a2, fun i hi => ?_, fun i hi => ?_, ?_⟩, hT.more (fun i _ ho => ⟨h3 i ho, fun hk => ho (h4 i hk).1⟩)⟩
  · by_cases hw : i < w.heap.size
    · rw [a3 i hw] at hi
      exact h3 i hi
    · have := h5.size
      omega
  · exact ⟨by rw [a3 i (h4 i hi).2]; exact (h4 i hi).1, Nat.lt_of_lt_of_le (h4 i hi).2 hT.size⟩
  · exact hT.below h5 h5.size h3
theorem kindV {v : Value} {k : Int} (h : ErrV2 v k) (hk : k ≠ 0) (w : World) (hg : ErrLaid w) : Calls Tryz.prog 13 #[v] w fun e w' => e = .returned (.int .i64 k) ∧ Below w.heap.size w w' := by
  rcases h with ⟨h, _⟩ | ⟨_, d, hd, he⟩
  · exact absurd h hk
  · exact kind_err3 he (by omega) w hg
theorem Run.laid {w0 w : World} {s N : Nat} {M : StM} {K : Nat → Prop} (h : Run w0 w s N M K) (hl : ErrLaid w0) : ErrLaid w := ErrLaid.below hl h.below

/-! ### the model's own steps -/
theorem applyM_ok {M : StM} {e : Ent} {stripe at_ : Int} (h : rightE e = true) (h0 : 0 ≤ stripe) (h1 : 0 ≤ at_) : applyM M e stripe at_ = applyR M e stripe at_ := by
  unfold applyM
  rw [if_pos ⟨h, h0, h1⟩]
theorem find_set {T : TopM} {n m : ByteArray} {k : Int} {P : PartM} : findT (setT T n k P) m = if m = n then (findT T n).map (fun l => l.set k.toNat P) else findT T m := by
  unfold findT setT
  induction T with
  | nil => split <;> rfl
  | cons t r ih =>
    rw [List.map_cons, List.find?_cons, List.find?_cons]
    have e1 : (if t.1 = n then (t.1, t.2.set k.toNat P) else t).1 = t.1 := by split <;> rfl
    rw [e1]
    by_cases hm : t.1 = m
    · rw [decide_eq_true hm]
      dsimp only
      by_cases hn : m = n
      · subst hn
        rw [if_pos rfl, decide_eq_true hm, if_pos hm]
        rfl
      · rw [if_neg hn, List.find?_cons, decide_eq_true hm, if_neg (by rw [hm]; exact hn)]
    · rw [decide_eq_false hm]
      dsimp only
      rw [ih]
      by_cases hn : m = n
      · subst hn
        rw [if_pos rfl, if_pos rfl, decide_eq_false hm]
      · rw [if_neg hn, if_neg hn, List.find?_cons, decide_eq_false hm]
theorem part_set {T : TopM} {n : ByteArray} {k : Int} {P P' : PartM} (h : partT T n k = some P) : partT (setT T n k P') n k = some P' := by
  unfold partT at h ⊢
  split at h
  · rename_i hk
    rw [if_pos hk, find_set, if_pos rfl]
    cases hf : findT T n with
    | none => rw [hf] at h; cases h
    | some l =>
      rw [hf] at h
      replace h : l[k.toNat]? = some P := h
      show (l.set k.toNat P')[k.toNat]? = some P'
      rw [List.getElem?_set, if_pos rfl, if_pos (List.getElem?_eq_some_iff.1 h).1]
  · cases h
theorem has_find {T : TopM} {n : ByteArray} : hasT T n = (findT T n).isSome := by
  unfold hasT findT
  induction T with
  | nil => rfl
  | cons t r ih =>
    rw [List.any_cons, List.find?_cons]
    cases hd : decide (t.1 = n)
    · rw [Bool.false_or]; exact ih
    · rfl
theorem has_part {T : TopM} {n : ByteArray} {k : Int} {P : PartM} (h : partT T n k = some P) : hasT T n = true := by
  rw [has_find]
  unfold partT at h
  split at h
  · cases hf : findT T n with
    | none => rw [hf] at h; cases h
    | some l => rfl
  · cases h
theorem find_del {T : TopM} {n m : ByteArray} : findT (delT n T) m = if m = n then none else findT T m := by
  unfold findT delT
  induction T with
  | nil => split <;> rfl
  | cons t r ih =>
    by_cases hn : t.1 = n
    · rw [List.filter_cons_of_neg (by simp [hn]), ih, List.find?_cons]
      by_cases hm : m = n
      · rw [if_pos hm, if_pos hm]
      · rw [if_neg hm, if_neg hm, decide_eq_false (by rw [hn]; exact fun e => hm e.symm)]
    · rw [List.filter_cons_of_pos (by simp [hn]), List.find?_cons, List.find?_cons]
      by_cases hm : t.1 = m
      · rw [decide_eq_true hm, if_neg (by rw [← hm]; exact hn)]
      · rw [decide_eq_false hm]
        exact ih
theorem part_del {T : TopM} {n : ByteArray} {k : Int} : partT (delT n T) n k = none := by
  unfold partT
  rw [find_del, if_pos rfl]
  split <;> rfl
end Go.Proofs.YtjodiieeocaipaaGreatDoor
