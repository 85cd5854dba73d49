/-
  The group's map and the document's list of marks say the same.
-/
import Derived.Test.YtgigibkadbnplaaDoorMarkG
import Derived.Test.YtgigibkadbnplaaDoorMarkF
import Derived.Test.YtgigibkadbnplaaDoorForgMath
namespace Go.Proofs.YtgigibkadbnplaaDoor
open Go.RowKit Go.Maps

def keyM (m : Mk) : Lit := mkey m.a m.t m.p
structure okM (m : Mk) : Prop where
  a : m.a.size ≤ maxLen
  t : m.t.size ≤ maxLen
  p : (Lit.int .i64 m.p).wf = true
structure Sim (D : DataW Unit) (l : List Mk) : Prop where
  nd : (l.map keyM).Nodup
  ok : ∀ m ∈ l, okM m
  has : ∀ k, Maps.has D k = true ↔ k ∈ l.map keyM
  off : ∀ m ∈ l, markOf D (keyM m) = m.o
theorem sim_nil : Sim (DataW.map []) [] :=
  ⟨List.nodup_nil, (fun _ h => absurd h List.not_mem_nil), (fun _ => ⟨(fun h => Bool.noConfusion h), (fun h => absurd h List.not_mem_nil)⟩), (fun _ h => absurd h List.not_mem_nil)⟩
theorem hit_iff {m : Mk} (hm : okM m) {a t : ByteArray} {p : Int} (ha : a.size ≤ maxLen) (ht : t.size ≤ maxLen) (hp : (Lit.int .i64 p).wf = true) : m.hit a t p = true ↔ keyM m = mkey a t p := by
  unfold Mk.hit keyM
  rw [Bool.and_eq_true, Bool.and_eq_true, decide_eq_true_iff, decide_eq_true_iff, decide_eq_true_iff]
  constructor
  · rintro ⟨⟨h1, h2⟩, h3⟩
    rw [h1, h2, h3]
  · intro h
    obtain ⟨h1, h2, h3⟩ := mkey_inj hm.a hm.t hm.p ha ht hp h
    exact ⟨⟨h1, h2⟩, h3⟩
theorem findM_some {l : List Mk} {a t : ByteArray} {p : Int} {i : Nat} (h : findM l a t p = some i) : ∃ m, l[i]? = some m ∧ m.hit a t p = true := by
  unfold findM at h
  rw [List.findIdx?_eq_some_iff_getElem] at h
  obtain ⟨h1, h2, _⟩ := h
  exact ⟨l[i], List.getElem?_eq_getElem h1, h2⟩
theorem findM_no {l : List Mk} {a t : ByteArray} {p : Int} (h : findM l a t p = none) : ∀ m ∈ l, m.hit a t p = false := by
  unfold findM at h
  rw [List.findIdx?_eq_none_iff] at h
  exact h
section
variable {D : DataW Unit} {l : List Mk} {a t : ByteArray} {p : Int} {i : Nat}
theorem Sim.has_find (S : Sim D l) (ha : a.size ≤ maxLen) (ht : t.size ≤ maxLen) (hp : (Lit.int .i64 p).wf = true) : Maps.has D (mkey a t p) = (findM l a t p).isSome := by
  rw [Bool.eq_iff_iff, S.has, List.mem_map]
  constructor
  · rintro ⟨m, hm, e⟩
    cases hf : findM l a t p with
    | some i => rfl
    | none =>
      have := findM_no hf m hm
      rw [(hit_iff (S.ok m hm) ha ht hp).2 e] at this
      cases this
  · intro h
    obtain ⟨i, hf⟩ := Option.isSome_iff_exists.1 h
    obtain ⟨m, hm, hh⟩ := findM_some hf
    exact ⟨m, List.mem_of_getElem? hm, (hit_iff (S.ok m (List.mem_of_getElem? hm)) ha ht hp).1 hh⟩
theorem Sim.off_find (S : Sim D l) (ha : a.size ≤ maxLen) (ht : t.size ≤ maxLen) (hp : (Lit.int .i64 p).wf = true) : markOf D (mkey a t p) = offM l a t p := by
  unfold offM
  cases hf : findM l a t p with
  | none =>
    have h := S.has_find ha ht hp
    rw [hf] at h
    unfold markOf
    rw [atKey_of_not_has h]
  | some i =>
    obtain ⟨m, hm, hh⟩ := findM_some hf
    have e := (hit_iff (S.ok m (List.mem_of_getElem? hm)) ha ht hp).1 hh
    simp only [hm]
    rw [← e]
    exact S.off m (List.mem_of_getElem? hm)
theorem keys_set (l : List Mk) (i : Nat) (m m' : Mk) (hm : l[i]? = some m) (e : keyM m' = keyM m) : (l.set i m').map keyM = l.map keyM := by
  obtain ⟨hi, rfl⟩ := List.getElem?_eq_some_iff.1 hm
  apply List.ext_getElem?
  intro j
  rw [List.getElem?_map, List.getElem?_map, List.getElem?_set]
  by_cases hj : i = j
  · subst hj
    rw [if_pos rfl, if_pos hi, List.getElem?_eq_getElem hi]
    simp [e]
  · rw [if_neg hj]
theorem Sim.hit (S : Sim D l) (hD : Maps.IsMap D) (ha : a.size ≤ maxLen) (ht : t.size ≤ maxLen) (hp : (Lit.int .i64 p).wf = true) (o : Int) (hf : findM l a t p = some i) :
    Sim (D.put (mkey a t p) (.lit (.int .i64 o))) (l.set i ⟨a, t, p, o⟩) := by
  obtain ⟨m, hm, hh⟩ := findM_some hf
  have hml := List.mem_of_getElem? hm
  have e := (hit_iff (S.ok m hml) ha ht hp).1 hh
  have hk := keys_set l i m ⟨a, t, p, o⟩ hm (show mkey a t p = keyM m from e.symm)
  refine ⟨by rw [hk]; exact S.nd, fun m' hm' => ?_, fun k => ?_, fun m' hm' => ?_⟩
  · rcases List.mem_or_eq_of_mem_set hm' with h | rfl
    · exact S.ok m' h
    · exact ⟨ha, ht, hp⟩
  · rw [hk]
    by_cases hkk : k = mkey a t p
    · subst hkk
      rw [has_put_same hD (mkey_isKey _ _ _)]
      exact ⟨fun _ => by rw [← e]; exact List.mem_map_of_mem hml, fun _ => rfl⟩
    · rw [has_put_other hkk]; exact S.has k
  · obtain ⟨j, hj⟩ := List.mem_iff_getElem?.1 hm'
    rw [List.getElem?_set] at hj
    obtain ⟨hi, _⟩ := List.getElem?_eq_some_iff.1 hm
    by_cases hij : i = j
    · rw [if_pos hij, if_pos hi] at hj
      obtain rfl := Option.some.inj hj
      exact markOf_same hD (mkey_isKey _ _ _)
    · rw [if_neg hij] at hj
      have hne : keyM m' ≠ mkey a t p := fun h => by
        have h1 : (l.map keyM)[j]? = some (keyM m') := by rw [List.getElem?_map, hj]; rfl
        have h2 : (l.map keyM)[i]? = some (keyM m') := by rw [List.getElem?_map, hm, h, ← e]; rfl
        obtain ⟨b1, c1⟩ := List.getElem?_eq_some_iff.1 h1
        obtain ⟨b2, c2⟩ := List.getElem?_eq_some_iff.1 h2
        have hp := List.pairwise_iff_getElem.1 (List.nodup_iff_pairwise_ne.1 S.nd)
        rcases Nat.lt_or_ge i j with hlt | hge
        · exact hp i j b2 b1 hlt (c2.trans c1.symm)
        · exact hp j i b1 b2 (by omega) (c1.trans c2.symm)
      rw [markOf_other hne]
      exact S.off m' (List.mem_of_getElem? hj)
theorem Sim.new (S : Sim D l) (hD : Maps.IsMap D) (ha : a.size ≤ maxLen) (ht : t.size ≤ maxLen) (hp : (Lit.int .i64 p).wf = true) (o : Int) (hf : findM l a t p = none) :
    Sim (D.put (mkey a t p) (.lit (.int .i64 o))) (l ++ [⟨a, t, p, o⟩]) := by
  have hno : mkey a t p ∉ l.map keyM := fun h => by
    obtain ⟨m, hm, e⟩ := List.mem_map.1 h
    have := findM_no hf m hm
    rw [(hit_iff (S.ok m hm) ha ht hp).2 e] at this
    cases this
  have hk : (l ++ [(⟨a, t, p, o⟩ : Mk)]).map keyM = l.map keyM ++ [mkey a t p] := by rw [List.map_append]; rfl
  refine ⟨?_, fun m' hm' => ?_, fun k => ?_, fun m' hm' => ?_⟩
  · rw [hk, List.nodup_append]
    exact ⟨S.nd, by simp, fun x hx y hy e => hno (by rw [List.mem_singleton] at hy; rw [← hy, ← e]; exact hx)⟩
  · rcases List.mem_append.1 hm' with h | h
    · exact S.ok m' h
    · obtain rfl := List.mem_singleton.1 h
      exact ⟨ha, ht, hp⟩
  · rw [hk, List.mem_append, List.mem_singleton]
    by_cases hkk : k = mkey a t p
    · subst hkk
      rw [has_put_same hD (mkey_isKey _ _ _)]
      exact ⟨fun _ => .inr rfl, fun _ => rfl⟩
    · rw [has_put_other hkk, S.has k]
      exact ⟨.inl, fun h => h.resolve_right hkk⟩
  · rcases List.mem_append.1 hm' with h | h
    · rw [markOf_other (fun e => hno (by rw [← e]; exact List.mem_map_of_mem h))]
      exact S.off m' h
    · obtain rfl := List.mem_singleton.1 h
      exact markOf_same hD (mkey_isKey _ _ _)
theorem Sim.size (S : Sim D l) {w : World} {g b : Nat} (h : Grp w g b D) : Maps.size D = l.length := by
  obtain ⟨es, rfl, hap, hkeys⟩ := h.own.entries law_key
  rw [Maps.size_eq]
  have n1 : (es.map (·.1)).Nodup := by
    rw [List.nodup_iff_pairwise_ne, List.pairwise_map]
    exact hap
  have hK : ∀ x, x ∈ es.map (·.1) ↔ x ∈ l.map keyM := fun x => by
    rw [← S.has x, List.mem_map]
    constructor
    · rintro ⟨q, hq, rfl⟩
      exact List.any_eq_true.2 ⟨q, hq, WideAt.sameKey_self (hkeys q hq)⟩
    · intro hx
      obtain ⟨q, hq, hs⟩ := List.any_eq_true.1 hx
      exact ⟨q, hq, WideAt.sameKey_eq hs⟩
  have l1 := nodup_le _ _ n1 (fun x hx => (hK x).1 hx)
  have l2 := nodup_le _ _ S.nd (fun x hx => (hK x).2 hx)
  rw [List.length_map, List.length_map] at l1 l2
  exact Nat.le_antisymm l1 l2
theorem Sim.less (S : Sim D l) {w : World} {g b : Nat} (h : Grp w g b D) {u : ByteArray} (hu : u.size ≤ maxLen) : Sim (lessOf u D) (lessM u l) := by
  obtain ⟨es, rfl, hap, hkeys⟩ := h.own.entries law_key
  have hsub : (lessM u l).Sublist l := List.filter_sublist
  have htop : ∀ m ∈ l, ∀ d, ofTopic u (keyM m) d = decide (m.t = u) := fun m hm d => ofTopic_key (S.ok m hm).a (S.ok m hm).t hu (S.ok m hm).p d
  refine ⟨(hsub.map keyM).nodup S.nd, fun m hm => S.ok m (hsub.mem hm), fun k => ?_, fun m hm => ?_⟩
  · unfold lessOf Lib.deleteFuncD
    constructor
    · intro hk
      obtain ⟨q, hq, hs⟩ := List.any_eq_true.1 hk
      obtain ⟨hq1, hq2⟩ := List.mem_filter.1 hq
      obtain rfl := WideAt.sameKey_eq hs
      obtain ⟨m, hm, e⟩ := List.mem_map.1 ((S.has q.1).1 (List.any_eq_true.2 ⟨q, hq1, hs⟩))
      rw [← e] at hq2 ⊢
      rw [htop m hm] at hq2
      exact List.mem_map_of_mem (List.mem_filter.2 ⟨hm, hq2⟩)
    · intro hk
      obtain ⟨m, hm, rfl⟩ := List.mem_map.1 hk
      obtain ⟨hm1, hm2⟩ := List.mem_filter.1 hm
      obtain ⟨q, hq, hs⟩ := List.any_eq_true.1 ((S.has (keyM m)).2 (List.mem_map_of_mem hm1))
      have e := WideAt.sameKey_eq hs
      refine List.any_eq_true.2 ⟨q, List.mem_filter.2 ⟨hq, ?_⟩, hs⟩
      rw [e, htop m hm1]
      exact hm2
  · obtain ⟨hm1, hm2⟩ := List.mem_filter.1 hm
    rw [← S.off m hm1]
    obtain ⟨q, hq, hs⟩ := List.any_eq_true.1 ((S.has (keyM m)).2 (List.mem_map_of_mem hm1))
    have e := WideAt.sameKey_eq hs
    have hq' : (keyM m, q.2) ∈ es := by rw [← e]; exact hq
    have hqf : (keyM m, q.2) ∈ es.filter (fun p => !ofTopic u p.1 p.2) := List.mem_filter.2 ⟨hq', by show (!ofTopic u (keyM m) q.2) = true; rw [htop m hm1]; exact hm2⟩
    unfold markOf lessOf Lib.deleteFuncD
    show (match (DataW.map (es.filter (fun p => !ofTopic u p.1 p.2))).atKey (keyM m) (DataW.lit (Lit.int IntKind.i64 0)) with | DataW.lit (Lit.int _ c) => c | _ => 0) = _
    rw [WideAt.atKey_mem _ (by exact mkey_isKey m.a m.t m.p) hap hq', WideAt.atKey_mem _ (by exact mkey_isKey m.a m.t m.p) (hap.filter _) hqf]
    rfl
end
end Go.Proofs.YtgigibkadbnplaaDoor
