/-
  What is forgotten is one topic's: the count of the marks that a topic has, where all keys are of the little grid.
-/
import Derived.Test.YtgigibkadbnplaaDoorGrpFor
import Derived.Test.YtgigibkadbnplaaDoorGrpWord
namespace Go.Proofs.YtgigibkadbnplaaDoor
open Go.RowKit Go.Maps

/-- the key at a place of the grid -/
def gk (a t p : Nat) : Lit := mkey (wd a) (wd t) (p : Int)
theorem gk_inj {a t p a' t' p' : Nat} (ha : a < 6) (ht : t < 6) (hp : p < 1000) (ha' : a' < 6) (ht' : t' < 6) (hp' : p' < 1000) (h : gk a t p = gk a' t' p') : a = a' ∧ t = t' ∧ p = p' := by
  have := mkey_inj (by unfold maxLen; rw [wd_size]; omega) (by unfold maxLen; rw [wd_size]; omega) (wf_of (by omega) (by omega)) (by unfold maxLen; rw [wd_size]; omega) (by unfold maxLen; rw [wd_size]; omega) (wf_of (by omega) (by omega)) h
  exact ⟨wd_inj ha ha' this.1, wd_inj ht ht' this.2.1, by omega⟩
theorem wd_le (j : Nat) : (wd j).size ≤ maxLen := by unfold maxLen; rw [wd_size]; omega
/-- all marks are of the grid -/
def Grid (D : DataW Unit) : Prop := ∀ k, Maps.has D k = true → ∃ a t p, a < 6 ∧ t < 6 ∧ p < 4 ∧ k = gk a t p
theorem grid_nil : Grid (DataW.map []) := fun k h => by cases h
theorem grid_put {D : DataW Unit} (h : Grid D) {a t p : Nat} (ha : a < 6) (ht : t < 6) (hp : p < 4) (d : DataW Unit) : Grid (D.put (gk a t p) d) := fun k hk => by
  by_cases he : k = gk a t p
  · exact ⟨a, t, p, ha, ht, hp, he⟩
  · rw [has_put_other he] at hk; exact h k hk
theorem grid_set {D : DataW Unit} (h : Grid D) {a t p : Nat} (ha : a < 6) (ht : t < 6) (hp : p < 4) (o : Int) : Grid (setD D (gk a t p) o) := by
  unfold setD
  split
  · exact h
  · exact grid_put h ha ht hp _
theorem size_set {D : DataW Unit} (hD : Maps.Tidy D) (h : Maps.size D ≤ 32) (k : Lit) (o : Int) : Maps.size (setD D k o) ≤ 32 := by
  unfold setD
  split
  · exact h
  · rename_i hn
    rw [size_put hD]
    split
    · exact h
    · rename_i hh
      have : ¬ 32 ≤ Maps.size D := fun h => hn ⟨by simpa using hh, h⟩
      omega

theorem nodup_le {α : Type} : ∀ (l m : List α), l.Nodup → (∀ x ∈ l, x ∈ m) → l.length ≤ m.length
  | [], _, _, _ => Nat.zero_le _
  | x :: l, m, hn, hs => by
    obtain ⟨s, r, rfl⟩ := List.append_of_mem (hs x (by simp))
    obtain ⟨h1, h2⟩ := List.nodup_cons.1 hn
    have := nodup_le l (s ++ r) h2 (fun y hy => by
      have h3 := hs y (by simp [hy])
      rw [List.mem_append, List.mem_cons] at h3
      rw [List.mem_append]
      rcases h3 with h3 | h3 | h3
      · exact .inl h3
      · subst h3; exact absurd hy h1
      · exact .inr h3)
    simp at this ⊢
    omega

/-- the places of the grid, one topic's -/
def PL : List (Nat × Nat) := (List.range 6).flatMap fun a => (List.range 4).map fun p => (a, p)
theorem PL_len : PL.length = 24 := by decide
theorem PL_nodup : PL.Nodup := by decide
theorem PL_at : ∀ a < 6, ∀ i < 4, PL[4 * a + i]? = some (a, i) := by decide
theorem PL_lt : ∀ x ∈ PL, x.1 < 6 ∧ x.2 < 4 := by decide
theorem PL_mem (a p : Nat) (ha : a < 6) (hp : p < 4) : (a, p) ∈ PL := List.mem_of_getElem? (PL_at a ha p hp)
/-- how many of the first n places have a mark of topic t -/
def cnt (D : DataW Unit) (t n : Nat) : Nat := ((PL.take n).filter fun x => Maps.has D (gk x.1 t x.2)).length
theorem cnt_zero (D : DataW Unit) (t : Nat) : cnt D t 0 = 0 := rfl
theorem cnt_next (D : DataW Unit) (t a i : Nat) (ha : a < 6) (hi : i < 4) : cnt D t (4 * a + i + 1) = cnt D t (4 * a + i) + (if Maps.has D (gk a t i) then 1 else 0) := by
  unfold cnt
  rw [List.take_add_one, PL_at a ha i hi, List.filter_append, List.length_append]
  congr 1
  simp only [Option.toList]
  by_cases h : Maps.has D (gk a t i) = true
  · rw [if_pos h, List.filter_cons_of_pos (by exact h)]; rfl
  · rw [if_neg h, List.filter_cons_of_neg (by exact h)]; rfl
theorem cnt_le (D : DataW Unit) (t n : Nat) : cnt D t n ≤ 24 := by
  unfold cnt
  have h1 := List.length_filter_le (fun x : Nat × Nat => Maps.has D (gk x.1 t x.2)) (PL.take n)
  have h2 := List.length_take_le' n PL
  rw [PL_len] at h2
  omega

theorem filter_split {α : Type} (p : α → Bool) : ∀ l : List α, l.length = (l.filter p).length + (l.filter fun x => !p x).length
  | [] => rfl
  | x :: l => by
    have := filter_split p l
    cases h : p x
    · rw [List.filter_cons_of_neg (by simp [h]), List.filter_cons_of_pos (by simp [h]), List.length_cons, List.length_cons]; omega
    · rw [List.filter_cons_of_pos (by simp [h]), List.filter_cons_of_neg (by simp [h]), List.length_cons, List.length_cons]; omega
theorem count_topic {w : World} {g b : Nat} {D : DataW Unit} (h : Grp w g b D) (hG : Grid D) {t : Nat} (ht : t < 6) : Maps.size D = cnt D t 24 + Maps.size (lessOf (wd t) D) := by
  obtain ⟨es, rfl, hap, hkeys⟩ := h.own.entries law_key
  have hhas : ∀ p ∈ es, Maps.has (.map es) p.1 = true := fun p hp => List.any_eq_true.2 ⟨p, hp, WideAt.sameKey_self (hkeys p hp)⟩
  unfold lessOf Lib.deleteFuncD
  rw [Maps.size_eq, Maps.size_eq, filter_split (fun p : Lit × DataW Unit => ofTopic (wd t) p.1 p.2) es]
  congr 1
  have hK : ∀ x, x ∈ (es.filter fun p => ofTopic (wd t) p.1 p.2).map (·.1) ↔ x ∈ (PL.filter fun x => Maps.has (.map es : DataW Unit) (gk x.1 t x.2)).map (fun x => gk x.1 t x.2) := by
    intro x
    rw [List.mem_map, List.mem_map]
    constructor
    · rintro ⟨p, hp, rfl⟩
      obtain ⟨hp1, hp2⟩ := List.mem_filter.1 hp
      obtain ⟨a, t', q, ha, ht', hq, e⟩ := hG _ (hhas p hp1)
      have e2 : gk a t' q = mkey (wd a) (wd t') (q : Int) := rfl
      rw [e, e2, ofTopic_key (wd_le a) (wd_le t') (wd_le t) (wf_of (by omega) (by omega))] at hp2
      obtain rfl := wd_inj ht' ht (of_decide_eq_true hp2)
      refine ⟨(a, q), List.mem_filter.2 ⟨PL_mem a q ha hq, ?_⟩, e.symm⟩
      show Maps.has _ (gk a t' q) = true
      rw [← e]; exact hhas p hp1
    · rintro ⟨y, hy, rfl⟩
      obtain ⟨hy1, hy2⟩ := List.mem_filter.1 hy
      obtain ⟨p, hp, hs⟩ := List.any_eq_true.1 hy2
      have e := WideAt.sameKey_eq hs
      refine ⟨p, List.mem_filter.2 ⟨hp, ?_⟩, e⟩
      have hl := PL_lt y hy1
      have e2 : p.1 = mkey (wd y.1) (wd t) (y.2 : Int) := e
      show ofTopic (wd t) p.1 p.2 = true
      rw [e2, ofTopic_key (wd_le _) (wd_le t) (wd_le t) (wf_of (by omega) (by omega))]
      exact decide_eq_true rfl
  have n1 : ((es.filter fun p => ofTopic (wd t) p.1 p.2).map (·.1)).Nodup := by
    rw [List.nodup_iff_pairwise_ne, List.pairwise_map]
    exact hap.filter _
  have n2 : ((PL.filter fun x => Maps.has (.map es : DataW Unit) (gk x.1 t x.2)).map (fun x => gk x.1 t x.2)).Nodup := by
    rw [List.nodup_iff_pairwise_ne, List.pairwise_map]
    refine List.Pairwise.imp_of_mem ?_ ((List.nodup_iff_pairwise_ne.1 PL_nodup).filter _)
    intro x y hx hy hne e
    have hx' := PL_lt x (List.mem_filter.1 hx).1
    have hy' := PL_lt y (List.mem_filter.1 hy).1
    have := gk_inj hx'.1 ht (by omega) hy'.1 ht (by omega) e
    exact hne (Prod.ext this.1 this.2.2)
  have l1 := nodup_le _ _ n1 (fun x hx => (hK x).1 hx)
  have l2 := nodup_le _ _ n2 (fun x hx => (hK x).2 hx)
  rw [List.length_map, List.length_map] at l1 l2
  unfold cnt
  rw [List.take_of_length_le (by rw [PL_len]; exact Nat.le_refl _)]
  exact Nat.le_antisymm l1 l2
theorem wn_of {a : Nat} (h : a < 6) : wn (a : Int) = a := by
  unfold wn within
  show ((0 : Int) + (a : Int) % (5 - 0 + 1)).toNat = a
  omega
theorem less_twice (u : ByteArray) (D : DataW Unit) : Maps.size (lessOf u (lessOf u D)) = Maps.size (lessOf u D) := by
  cases D with
  | map es =>
    show ((es.filter fun p => !ofTopic u p.1 p.2).filter fun p => !ofTopic u p.1 p.2).length = (es.filter fun p => !ofTopic u p.1 p.2).length
    rw [List.filter_filter]
    simp
  | _ => rfl
end Go.Proofs.YtgigibkadbnplaaDoor
