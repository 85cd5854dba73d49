/-
  maps.Keys and slices.Sorted at the map of topics.
-/
import Derived.Test.YtjodiieeocaipaaGreatDoorIter
import Derived.Test.YtjodiieeocaipaaGreatDoorSTop
import Derived.Test.YtjodiieeocaipaaGreatDoorECurs
import Derived.CallsIn
namespace Go.Proofs.YtjodiieeocaipaaGreatDoor
open Go.RowKit Go.Maps Go.Sort Go.Shelf

/-- slices.Sort's two contracts -/
theorem sorts_str (m : Nat) : AnyZ.SortsIn Tryz.prog Tryz.sorted35_ren Fence.wide m :=
  ⟨fun blk off cap ss W hH hblk hsz => callsIn_wide.2 (AnyM.slices_Sort_string Tryz.sort62 blk off cap ss W hH hblk hsz),
   fun p cap W => callsIn_wide.2 (AnyM.slices_Sort_string_none Tryz.sort62 p cap W)⟩
/-- maps.Keys: a function over one new block, which holds the map -/
theorem keys_any (mb : Option Nat) (W : World) : Calls Tryz.prog 36 #[.map mb] W fun e w' => e = .returned (.func (.func 63) #[] #[.pointer (some ⟨W.heap.size, 0, none⟩)]) ∧ w' = W.alloc (.cells #[.map mb] 62) :=
  callsIn_wide.1 (AnyZ.keys_in Tryz.keys36 Fence.wide 5 trivial rfl mb W)
set_option maxHeartbeats 1000000 in
/-- slices.Sorted at that -/
theorem sorted_any {H : Type} (b nn : Nat) (D0 : DataW H) (R : Value → Option (DataW H × List MemPlace)) (w : World) (hown : w.ownsMap Tryz.prog 9 R b nn D0) (hmax : Maps.size D0 ≤ maxLen) (hbytes : Maps.size D0 * 16 ≤ 140737488355328) :
    Calls Tryz.prog 35 #[.func (.func 63) #[] #[.pointer (some ⟨w.heap.size, 0, none⟩)]] (w.alloc (.cells #[.map (some b)] 62)) fun e w' => ∃ (v : Value) (ss : List (List UInt8)), e = .returned v ∧ ss.Perm (strKeys D0) ∧
      w'.ownsRow (w.alloc (.cells #[.map (some b)] 62)).heap.size 9 1 v ss.length ((ss.mergeSort (fun x y => decide (x ≤ y))).map encStr) ∧ Below (w.alloc (.cells #[.map (some b)] 62)).heap.size (w.alloc (.cells #[.map (some b)] 62)) w' := by
  have hbl := hown.lt
  have hseq : SeqGives Fence.wide 2 Tryz.prog 63 #[.pointer (some ⟨w.heap.size, 0, none⟩)] encStr (fun ss => ss.Perm (strKeys D0)) (Maps.size D0) (w.alloc (.cells #[.map (some b)] 62)) :=
    AnyZ.keys_gives (ρ := Tryz.keys36_ren) { Tryz.keys36 with } Fence.wide _ trivial rfl (by omega) w.heap.size b nn D0 _ (by simp) (by simp) (by
      obtain ⟨es, clock, hb, Ft, hs, hD⟩ := hown
      exact ⟨es, clock, (Below.heap_alloc _ _ b hbl).trans hb, Ft, hs, hD⟩)
  refine (callsIn_wide.1 (AnyZ.sorted_in Tryz.sorted35 Fence.wide 5 trivial trivial trivial trivial rfl (by omega) (sorts_str _) (enters_of Tryz.func62 (by kernel_rfl) rfl) 63 #[.pointer (some ⟨w.heap.size, 0, none⟩)] trivial (enters_of Tryz.func63 (by kernel_rfl) rfl) _ _ hmax hbytes _ hseq)).mono ?_
  rintro e w' ⟨v, ss, h1, h2, h3, _, h5⟩
  exact ⟨v, ss, h1, h2, h3, h5⟩

/-! ### the names in their order -/
theorem before_lt : ∀ (a b : List UInt8), bytesBefore a b = true → a < b
  | [], [], h => by simp [bytesBefore] at h
  | [], _ :: _, _ => List.nil_lt_cons _ _
  | _ :: _, [], h => by simp [bytesBefore] at h
  | x :: r, y :: s, h => by
    simp only [bytesBefore, Bool.or_eq_true, Bool.and_eq_true, decide_eq_true_eq, beq_iff_eq] at h
    rw [List.cons_lt_cons_iff]
    rcases h with h | ⟨h, h2⟩
    · exact .inl h
    · exact .inr ⟨h, before_lt r s h2⟩
theorem names_sorted {V : List TopW} (h : Sorted V) {ss : List (List UInt8)} (hp : ss.Perm (strKeys (.map (V.map TopW.ent)))) : ss.mergeSort (fun x y => decide (x ≤ y)) = V.map (fun t => namL t.name) := by
  have e : strKeys (.map (V.map TopW.ent)) = V.map (fun t => namL t.name) := by
    show (V.map TopW.ent).map _ = _
    rw [List.map_map]
    rfl
  rw [e] at hp
  have h1 := mergeSort_of_perm hp
  refine h1.trans ?_
  refine List.mergeSort_of_pairwise ?_
  rw [List.pairwise_map]
  exact h.imp (fun {a b} hab => decide_eq_true (List.le_of_lt (before_lt _ _ hab)))
theorem enc_names (V : List TopW) : (V.map (fun t => namL t.name)).map encStr = (V.map TopW.name).map Value.string := by
  rw [List.map_map, List.map_map]
  refine List.map_congr_left fun t _ => ?_
  show Value.string ⟨(t.name.data.toList).toArray⟩ = Value.string t.name
  rw [Array.toArray_toList]
/-- the names, sorted, in a slice of their own -/
theorem topics_sorted {w : World} {tb nn : Nat} {V : List TopW} (hown : w.ownsMap Tryz.prog 9 rawElem tb nn (.map (V.map TopW.ent))) (hs : Sorted V) (h8 : V.length ≤ 8) :
    Calls Tryz.prog 35 #[.func (.func 63) #[] #[.pointer (some ⟨w.heap.size, 0, none⟩)]] (w.alloc (.cells #[.map (some tb)] 62)) fun e w' => ∃ A c, e = .returned (.slice A V.length c) ∧ RdT w' A V.length c (V.map TopW.name) ∧ Below w.heap.size w w' := by
  have hsz : Maps.size (.map (V.map TopW.ent) : DataW Value) ≤ 8 := by
    rw [Maps.size_eq]
    simpa using h8
  refine (sorted_any tb nn _ rawElem w hown (by unfold maxLen; omega) (by omega)).mono ?_
  rintro e w' ⟨v, ss, rfl, hp, hrow, hb⟩
  rw [names_sorted hs hp, enc_names] at hrow
  have hl : ss.length = V.length := by
    have := hp.length_eq
    rw [this]
    show ((V.map TopW.ent).map _).length = _
    simp
  rw [hl] at hrow
  have hbb : Below w.heap.size w w' := (below_new w _).trans (below_le (by simp) hb)
  rcases hrow.2 with ⟨rfl, h0⟩ | ⟨g, cap, cur, rfl, _⟩
  · obtain rfl : V = [] := List.eq_nil_of_length_eq_zero h0
    exact ⟨none, 0, rfl, RdT.nil _, hbb⟩
  · exact ⟨_, _, rfl, OwnT.reads hrow, hbb⟩
end Go.Proofs.YtjodiieeocaipaaGreatDoor
