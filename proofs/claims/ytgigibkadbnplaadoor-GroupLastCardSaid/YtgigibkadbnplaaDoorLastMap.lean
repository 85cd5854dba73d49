/-
  The law's own map, keyed by three numbers.
-/
import Derived.Test.YtgigibkadbnplaaDoorForgMath
namespace Go.Proofs.YtgigibkadbnplaaDoor
open Go.RowKit Go.Maps

theorem row_l : (51 : TypeId) < Tryd.prog.types.size := of_decide_eq_true (by kernel_rfl)
set_option maxRecDepth 100000 in
theorem law_l : Keyed Tryd.prog 51 := Keyed.of_law (deep_law_laid laidOut_k (m := 3) (of_decide_eq_true rfl) row_l (by kernel_rfl) (by kernel_rfl))
theorem keyType_l : Tryd.prog.keyType 51 = true := by kernel_rfl
theorem cells_l : Tryd.prog.cellsOf 51 = 3 := by kernel_rfl
/-- three numbers as a key -/
def lkey (a t p : Int) : Lit := .string (keyBytes [.int .i64 a, .int .i64 t, .int .i64 p])
def wfI (z : Int) : Prop := (Lit.int .i64 z).wf = true
theorem lkey_is {a t p : Int} (ha : wfI a) (ht : wfI t) (hp : wfI p) : keyOf Tryd.prog 51 (.agg #[.int .i64 a, .int .i64 t, .int .i64 p]) = some (lkey a t p) := by
  unfold wfI at ha ht hp
  unfold keyOf
  rw [keyType_l]
  have hu := Tryd.underlying51
  have hu3 := Tryd.underlying3
  obtain ⟨m, hm⟩ : ∃ m, Tryd.prog.types.size = m + 1 := Nat.exists_eq_succ_of_ne_zero (Nat.ne_of_gt (Nat.lt_of_le_of_lt (Nat.zero_le _) row_l))
  rw [hm]
  simp [hu, Value.formed, cells_l, Value.cells, Program.keyLits, hu3, cells_int, ha, ht, hp, lkey, List.range_succ]
theorem lkey_inj {a t p a' t' p' : Int} (ha : wfI a) (ht : wfI t) (hp : wfI p) (ha' : wfI a') (ht' : wfI t') (hp' : wfI p') (h : lkey a t p = lkey a' t' p') : a = a' ∧ t = t' ∧ p = p' := by
  have h1 := lkey_is ha ht hp
  rw [h] at h1
  have e := law_l.inj h1 (lkey_is ha' ht' hp')
  simpa using e
set_option maxRecDepth 100000 in
theorem lits_l {m : Nat} {x y z : Value} {L : List Lit} (h : Tryd.prog.keyLits (m + 1) 51 [x, y, z] = some L) :
    ∃ l1 l2 l3, Tryd.prog.keyLits m 3 [x] = some l1 ∧ Tryd.prog.keyLits m 3 [y] = some l2 ∧ Tryd.prog.keyLits m 3 [z] = some l3 ∧ L = l1 ++ (l2 ++ l3) := by
  have hu := Tryd.underlying51
  unfold Program.keyLits at h
  simp only [hu] at h
  simp [cells_l, cells_int, List.range_succ] at h
  cases h1 : Tryd.prog.keyLits m 3 [x] with
  | none => simp [h1] at h
  | some l1 =>
    cases h2 : Tryd.prog.keyLits m 3 [y] with
    | none => simp [h1, h2] at h
    | some l2 =>
      cases h3 : Tryd.prog.keyLits m 3 [z] with
      | none => simp [h1, h2, h3] at h
      | some l3 =>
        simp [h1, h2, h3] at h
        exact ⟨l1, l2, l3, rfl, rfl, rfl, h.symm⟩
set_option maxRecDepth 100000 in
theorem lkey_inv {v : Value} {kl : Lit} (h : keyOf Tryd.prog 51 v = some kl) :
    ∃ a t p : Int, v = .agg #[.int .i64 a, .int .i64 t, .int .i64 p] ∧ kl = lkey a t p ∧ wfI a ∧ wfI t ∧ wfI p := by
  obtain ⟨xs, L, rfl, hL, rfl⟩ := keyOf_top (P := Tryd.prog) (k := 51) (by kernel_rfl) h
  obtain ⟨m, hm⟩ : ∃ m, Tryd.prog.types.size + 1 = m + 3 := ⟨Tryd.prog.types.size - 2, by have := types_two; omega⟩
  rw [hm] at hL
  have hlen : xs.toList.length = 3 := by
    have hu := Tryd.underlying51
    unfold Program.keyLits at hL
    simp only [hu, cells_l] at hL
    split at hL
    · rename_i hh; exact hh
    · cases hL
  obtain ⟨x, y, z, hx⟩ : ∃ x y z, xs.toList = [x, y, z] := by
    match xs.toList, hlen with
    | [x, y, z], _ => exact ⟨x, y, z, rfl⟩
  rw [hx] at hL
  obtain ⟨l1, l2, l3, h1, h2, h3, rfl⟩ := lits_l hL
  obtain ⟨a, rfl, ha, rfl⟩ := lits_int h1
  obtain ⟨t, rfl, ht, rfl⟩ := lits_int h2
  obtain ⟨p, rfl, hp, rfl⟩ := lits_int h3
  have : xs = #[.int .i64 a, .int .i64 t, .int .i64 p] := by rw [← Array.toArray_toList (xs := xs), hx]
  subst this
  exact ⟨a, t, p, rfl, rfl, ha, ht, hp⟩

/-- the grid's place in the law's own map -/
def lk (a t p : Nat) : Lit := lkey a t p
theorem lk_is {a t p : Nat} (ha : a < 1000) (ht : t < 1000) (hp : p < 1000) : keyOf Tryd.prog 51 (.agg #[.int .i64 a, .int .i64 t, .int .i64 p]) = some (lk a t p) := lkey_is (wf_of (by omega) (by omega)) (wf_of (by omega) (by omega)) (wf_of (by omega) (by omega))
theorem lk_inj {a t p a' t' p' : Nat} (ha : a < 1000) (ht : t < 1000) (hp : p < 1000) (ha' : a' < 1000) (ht' : t' < 1000) (hp' : p' < 1000) (h : lk a t p = lk a' t' p') : a = a' ∧ t = t' ∧ p = p' := by
  have := lkey_inj (wf_of (by omega) (by omega)) (wf_of (by omega) (by omega)) (wf_of (by omega) (by omega)) (wf_of (by omega) (by omega)) (wf_of (by omega) (by omega)) (wf_of (by omega) (by omega)) h
  omega
theorem gk_key (a t p : Nat) : WideAt.IsKeyLit (gk a t p) := trivial
theorem lk_key (a t p : Nat) : WideAt.IsKeyLit (lk a t p) := trivial
/-- what the law's own map reads as, block m -/
def Own3 (w : World) (m : Nat) (E : DataW Unit) : Prop := w.ownsMap Tryd.prog 51 (plainElem Tryd.prog 3) m (Maps.size E) E
theorem own3_tight {w : World} {m n : Nat} {E : DataW Unit} (h : w.ownsMap Tryd.prog 51 (plainElem Tryd.prog 3) m n E) : Own3 w m E := by
  obtain ⟨es, clock, h1, h2, h3, rfl⟩ := h
  exact ⟨es, clock, h1, h2, by rw [Maps.size_eq, length_read]; exact Nat.le_refl _, rfl⟩

/-- the groups' marks and the law's own map say the same -/
structure Same2 (D E : DataW Unit) : Prop where
  grid : Grid D
  gridE : ∀ k, Maps.has E k = true → ∃ a t p, a < 6 ∧ t < 6 ∧ p < 4 ∧ k = lk a t p
  has : ∀ a t p, a < 6 → t < 6 → p < 4 → Maps.has E (lk a t p) = Maps.has D (gk a t p)
  mark : ∀ a t p, a < 6 → t < 6 → p < 4 → Maps.has D (gk a t p) = true → markOf E (lk a t p) = markOf D (gk a t p)
  size : Maps.size E = Maps.size D
  le : Maps.size D ≤ 32
  tidyD : Maps.Tidy D
  tidyE : Maps.Tidy E
theorem same2_nil : Same2 (DataW.map []) (DataW.map []) :=
  ⟨grid_nil, (fun k h => by cases h), (fun _ _ _ _ _ _ => rfl), (fun _ _ _ _ _ _ h => by cases h), rfl, (by decide), tidy_empty, tidy_empty⟩
theorem same2_put {D E : DataW Unit} (h : Same2 D E) {a t p : Nat} (ha : a < 6) (ht : t < 6) (hp : p < 4) (o : Int) (hr : Maps.has D (gk a t p) = true ∨ Maps.size D < 32) :
    Same2 (D.put (gk a t p) (.lit (.int .i64 o))) (E.put (lk a t p) (.lit (.int .i64 o))) := by
  have key : ∀ a' t' p', a' < 6 → t' < 6 → p' < 4 → (gk a' t' p' = gk a t p ↔ lk a' t' p' = lk a t p) := fun a' t' p' ha' ht' hp' => by
    constructor
    · intro e
      obtain ⟨rfl, rfl, rfl⟩ := gk_inj ha' ht' (by omega) ha ht (by omega) e
      rfl
    · intro e
      obtain ⟨rfl, rfl, rfl⟩ := lk_inj (by omega) (by omega) (by omega) (by omega) (by omega) (by omega) e
      rfl
  refine ⟨grid_put h.grid ha ht hp _, ?_, ?_, ?_, ?_, ?_, h.tidyD.put (gk_key _ _ _) _, h.tidyE.put (lk_key _ _ _) _⟩
  · intro k hk
    by_cases he : k = lk a t p
    · exact ⟨a, t, p, ha, ht, hp, he⟩
    · rw [has_put_other he] at hk; exact h.gridE k hk
  · intro a' t' p' ha' ht' hp'
    by_cases he : gk a' t' p' = gk a t p
    · rw [he, (key _ _ _ ha' ht' hp').1 he, has_put_same h.tidyE.isMap (lk_key _ _ _), has_put_same h.tidyD.isMap (gk_key _ _ _)]
    · have he' : ¬ lk a' t' p' = lk a t p := fun e => he ((key _ _ _ ha' ht' hp').2 e)
      rw [has_put_other he, has_put_other he']
      exact h.has _ _ _ ha' ht' hp'
  · intro a' t' p' ha' ht' hp' hh
    by_cases he : gk a' t' p' = gk a t p
    · rw [he, (key _ _ _ ha' ht' hp').1 he, markOf_same h.tidyE.isMap (lk_key _ _ _), markOf_same h.tidyD.isMap (gk_key _ _ _)]
    · have he' : ¬ lk a' t' p' = lk a t p := fun e => he ((key _ _ _ ha' ht' hp').2 e)
      rw [has_put_other he] at hh
      rw [markOf_other he, markOf_other he']
      exact h.mark _ _ _ ha' ht' hp' hh
  · rw [size_put h.tidyE, size_put h.tidyD, h.has _ _ _ ha ht hp, h.size]
  · rw [size_put h.tidyD]
    rcases hr with hr | hr
    · rw [if_pos hr]; exact h.le
    · split
      · exact h.le
      · omega
theorem has_less {w : World} {g b : Nat} {D : DataW Unit} (h : Grp w g b D) {a t p T : Nat} (ht : t < 6) (hp : p < 4) (hT : T < 6) : Maps.has (lessOf (wd T) D) (gk a t p) = (Maps.has D (gk a t p) && !decide (t = T)) := by
  obtain ⟨es, rfl, _, _⟩ := h.own.entries law_key
  have ho : ∀ d, ofTopic (wd T) (gk a t p) d = decide (t = T) := fun d => by
    unfold gk
    rw [ofTopic_key (wd_le a) (wd_le t) (wd_le T) (wf_of (by omega) (by omega))]
    exact decide_eq_decide.2 ⟨fun e => wd_inj ht hT e, fun e => by rw [e]⟩
  show (es.filter fun q => !ofTopic (wd T) q.1 q.2).any (fun q => q.1.sameKey (gk a t p)) = (es.any (fun q => q.1.sameKey (gk a t p)) && !decide (t = T))
  apply Bool.eq_iff_iff.2
  rw [Bool.and_eq_true, List.any_eq_true, List.any_eq_true]
  constructor
  · rintro ⟨q, hq, hs⟩
    obtain ⟨h1, h2⟩ := List.mem_filter.1 hq
    rw [WideAt.sameKey_eq hs, ho] at h2
    exact ⟨⟨q, h1, hs⟩, h2⟩
  · rintro ⟨⟨q, hq, hs⟩, h2⟩
    refine ⟨q, List.mem_filter.2 ⟨hq, ?_⟩, hs⟩
    rw [WideAt.sameKey_eq hs, ho]
    exact h2
theorem own3_look {w : World} {m : Nat} {E : DataW Unit} (h : Own3 w m E) {a t p : Nat} (ha : a < 6) (ht : t < 6) (hp : p < 4) :
    (Instr.lookup 50 (.map (some m)) (.agg #[.int .i64 a, .int .i64 t, .int .i64 p]) true).run Tryd.prog w = .ok (.tuple #[.int .i64 (markOf E (lk a t p)), .bool (Maps.has E (lk a t p))]) w := by
  obtain ⟨v, ps, hlk, hv⟩ := World.ownsMap.look_ok h law_l Tryd.underlying50 (zero_mark _) (plainElem_int Tryd.underlying3 (by decide)) (lk_is (a := a) (t := t) (p := p) (by omega) (by omega) (by omega))
  obtain ⟨c, rfl, hc, _⟩ := plainElem_int_inv Tryd.underlying3 hv
  have hf : E.atKey (lk a t p) (.lit (.int .i64 0)) = .lit (.int .i64 c) := congrArg Prod.fst hc
  have hm : markOf E (lk a t p) = c := by unfold markOf; rw [hf]
  rw [hm]; exact hlk
theorem own3_len {w : World} {m : Nat} {E : DataW Unit} (h : Own3 w m E) (ty : TypeId) : (Builtin.len_ #[50] ty #[.map (some m)]).run Tryd.prog w = .ok (.int .i64 (Maps.size E)) w := World.ownsMap.len h Tryd.underlying50 ty
theorem own3_keep {w w' : World} {m : Nat} {E : DataW Unit} (h : Own3 w m E) {row : Option Nat} (hg : w.grownBy w' row) (hne : some m ≠ row) : Own3 w' m E := World.ownsMap.kept h hg hne
theorem three_way (x : Bool) (n : Nat) : x = true ∨ (x = false ∧ n < 32) ∨ (x = false ∧ 32 ≤ n) := by
  cases x
  · by_cases h : n < 32
    · exact .inr (.inl ⟨rfl, h⟩)
    · exact .inr (.inr ⟨rfl, by omega⟩)
  · exact .inl rfl
theorem mk3_inv (key : Value) (kl : Lit) (h : keyOf Tryd.prog 51 key = some kl) : ∃ x : Int × Int × Int, key = (fun x : Int × Int × Int => Value.agg #[.int .i64 x.1, .int .i64 x.2.1, .int .i64 x.2.2]) x := by
  obtain ⟨a, t, p, rfl, _⟩ := lkey_inv h
  exact ⟨(a, t, p), rfl⟩
/-- what an entry of the law's own map says of the marks -/
theorem entry_says {D E : DataW Unit} (h : Same2 D E) {xa xt xp c : Int} {kl : Lit} {yd : DataW Unit} {yp : List MemPlace} (hk : keyOf Tryd.prog 51 (.agg #[.int .i64 xa, .int .i64 xt, .int .i64 xp]) = some kl)
    (hv : plainElem Tryd.prog 3 (.int .i64 c) = some (yd, yp)) (hat : ∀ zd, E.atKey kl zd = yd) :
    ∃ a t p : Nat, a < 6 ∧ t < 6 ∧ p < 4 ∧ xa = a ∧ xt = t ∧ xp = p ∧ Maps.has D (gk a t p) = true ∧ markOf D (gk a t p) = c := by
  obtain ⟨a', t', p', e1, rfl, h1, h2, h3⟩ := lkey_inv hk
  obtain ⟨rfl, rfl, rfl⟩ : xa = a' ∧ xt = t' ∧ xp = p' := by simpa using e1
  have hE := has_true_of_atKey hat
  obtain ⟨a, t, p, ha, ht, hp, e⟩ := h.gridE _ hE
  obtain ⟨rfl, rfl, rfl⟩ := lkey_inj h1 h2 h3 (wf_of (by omega) (by omega)) (wf_of (by omega) (by omega)) (wf_of (by omega) (by omega)) e
  obtain ⟨c', ec, hz, _⟩ := plainElem_int_inv Tryd.underlying3 hv
  cases ec
  have hy : yd = .lit (.int .i64 c) := congrArg Prod.fst hz
  have hm : markOf E (lk a t p) = c := by unfold markOf lk; rw [hat, hy]
  have hD : Maps.has D (gk a t p) = true := by rw [← h.has a t p ha ht hp]; exact hE
  exact ⟨a, t, p, ha, ht, hp, rfl, rfl, rfl, hD, by rw [← h.mark a t p ha ht hp hD]; exact hm⟩
def ldL (v : Value) : Sem Value := Instr.loadAt 51 v
theorem ldL_eq (v : Value) : Instr.loadAt 51 v = ldL v := rfl
theorem size_l : (Tryd.prog.info? 51).map (·.size) = some 3 := by kernel_rfl
theorem ldL_bk {w : World} {g : Nat} {x y z : Value} (h : Bk w g 51 #[x, y, z]) : (ldL (.pointer (some ⟨g, 0, none⟩))).run Tryd.prog w = .ok (.agg #[x, y, z]) w := by
  unfold ldL
  simp only [Instr.loadAt, Instr.sureAddr, Sem.run_bind, Sem.run_pure, Result.andThen_ok, run_loadVar_row w g _ _ #[x, y, z] (0, 0) _ h Tryd.underlying51 rfl size_l]
end Go.Proofs.YtgigibkadbnplaaDoor
