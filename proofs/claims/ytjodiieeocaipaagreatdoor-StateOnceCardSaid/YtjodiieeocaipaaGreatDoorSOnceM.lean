/-
  stavelaw21: StateOnce: what the model says of a producer's batches sent in whatever order; the list of numbers; a partition's log.
-/
import Derived.Test.YtjodiieeocaipaaGreatDoorSRuns
import Derived.Test.YtjodiieeocaipaaGreatDoorWithin
namespace Go.Proofs.YtjodiieeocaipaaGreatDoor
open Go.ChangeShapes Go.WideShapes Go.ChangeAt Go.RowKit Go.Maps

/-- a slice of numbers reads as l -/
def RdI (w : World) (A : Option Addr) (n c : Nat) (l : List Int) : Prop := Rd w w.heap.size A n c (l.map (Value.int .i64)) ∧ ∀ z ∈ l, -9223372036854775808 ≤ z ∧ z ≤ 9223372036854775807
theorem RdI.ext {w w' : World} {A : Option Addr} {n c : Nat} {l : List Int} (h : RdI w A n c l) (hb : Below w.heap.size w w') : RdI w' A n c l := ⟨Rd.ext h.1 hb, h.2⟩
theorem cells_i : Tryz.prog.cellsOf 3 = 1 := by kernel_rfl
set_option maxRecDepth 100000 in
theorem Came.ints {H : Type} {enc : TypeId × Value → H} {W : World} {base : Nat} {v : Value} {d : DataW H} {p : List MemPlace} (h : Came enc W base 47 v d p) : ∃ A n c l, v = .slice A n c ∧ RdI W A n c l := by
  obtain ⟨A, n, c, rfl⟩ := okWide_slice Tryz.underlying47 h.1
  obtain ⟨fuel, hf⟩ := h.2
  rcases open_ints Tryz.underlying47 Tryz.underlying3 cells_i hf with ⟨hcs, _⟩ | ⟨x, l, c', zs, hcs, _, hl, hm, hz, _, hcell, hwz⟩
  · simp [Value.cells] at hcs
    obtain ⟨rfl, rfl, rfl⟩ := hcs
    exact ⟨none, 0, 0, [], rfl, Rd.nil W _, fun z hz => absurd hz List.not_mem_nil⟩
  · simp [Value.cells] at hcs
    obtain ⟨rfl, rfl, rfl⟩ := hcs
    have hz : zs.length = c := by simpa using hz
    refine ⟨_, _, _, zs.take n, rfl, ⟨by simp; omega, hl, by unfold maxLen at hm; exact hm, fun k u hu => ?_⟩, fun z hz' => wf_i64 (hwz z (List.mem_of_mem_take hz'))⟩
    have hk : k < n := by
      have := (List.getElem?_eq_some_iff.1 hu).1
      simp at this; omega
    have hc := hcell k (by omega)
    refine ⟨x, rfl, ?_, ?_⟩
    · have := cell_lt hc
      rwa [add_block] at this
    · have hkz : k < zs.length := by omega
      rw [hc, ← hu]
      simp only [List.getD_eq_getElem?_getD, Option.getD_some, List.getElem?_map, List.getElem?_take, if_pos hk, List.getElem?_eq_getElem hkz, Option.map_some]

/-- the partition after nx batches of two -/
structure OnceP (P : PartM) (nx : Nat) : Prop where
  next : P.log.next = 10 + 2 * nx
  len : P.log.heads.length = nx
  ded : P.ded 5 = if nx = 0 then none else some ⟨(nx : Int) - 1, 10 + 2 * ((nx : Int) - 1), 2⟩
theorem once_start : OnceP (newPart 10) 0 := ⟨rfl, rfl, rfl⟩
theorem right_Pall : ((List.range 60).all fun m => rightE (entP m)) = true := by decide +kernel
theorem right_Pm {m : Int} (h0 : 0 ≤ m) (h1 : m < 60) : rightE (entP m) = true := by
  have := List.all_eq_true.1 right_Pall m.toNat (List.mem_range.2 (by omega))
  rwa [Int.toNat_of_nonneg h0] at this
theorem right_C10 {p : Int} (h0 : 1 ≤ p) (h1 : p ≤ 3) : rightE (entC p 10) = true := by
  obtain rfl | rfl | rfl : p = 1 ∨ p = 2 ∨ p = 3 := by omega
  · decide
  · decide
  · decide
theorem ask_once {P : PartM} {nx : Nat} (h : OnceP P nx) (m : Int) (h0 : 0 ≤ m) (h1 : m ≤ 1000) : askD P.ded 5 m = if m = nx then (⟨0, 0, 0⟩, false, 0) else if m = (nx : Int) - 1 then (⟨(nx : Int) - 1, 10 + 2 * ((nx : Int) - 1), 2⟩, true, 0) else (⟨0, 0, 0⟩, false, 12) := by
  unfold askD
  rw [if_neg (by decide), if_neg (by omega), h.ded]
  by_cases hn : nx = 0
  · rw [if_pos hn]
    subst hn
    show (if m = 0 then _ else _) = _
    by_cases hm : m = 0
    · rw [if_pos hm, if_pos (by omega)]
    · rw [if_neg hm, if_neg (by omega), if_neg (by omega)]
  · rw [if_neg hn]
    show (if m = (nx : Int) - 1 then _ else if m = (nx : Int) - 1 + 1 then _ else _) = _
    by_cases hm : m = nx
    · rw [if_neg (by omega), if_pos (by omega), if_pos hm]
    · by_cases hm2 : m = (nx : Int) - 1
      · rw [if_pos hm2, if_neg hm, if_pos hm2]
      · rw [if_neg hm2, if_neg (by omega), if_neg hm, if_neg hm2]
theorem once_new {P : PartM} {nx : Nat} (h : OnceP P nx) (hn : nx ≤ 60) (at_ : Int) (ha : 0 ≤ at_) : ∃ P', prodM P (batP nx) 0 at_ = (P', ⟨10 + 2 * nx, 2, false⟩, 0) ∧ OnceP P' (nx + 1) := by
  have hask := ask_once h nx (by omega) (by omega)
  rw [if_pos rfl] at hask
  have hbad : addBad P.log 2 0 0 at_ = 0 := by
    unfold addBad addOk maxI
    rw [h.next, if_neg (by simp [ha]), if_neg (by omega)]
  have hp := prodM_new (L := P.log) (d := P.ded) (b := batP nx) (stripe := 0) (at_ := at_) hask hbad
  rw [h.next] at hp
  refine ⟨_, hp, ⟨?_, ?_, ?_⟩⟩
  · show P.log.next + 2 = _
    rw [h.next]
    omega
  · show (P.log.heads ++ [_]).length = nx + 1
    simp [h.len]
  · rw [if_neg (by omega)]
    show (noteD P.ded 5 ⟨(nx : Int), 10 + 2 * (nx : Int), 2⟩) 5 = _
    unfold noteD
    rw [if_neg (by decide)]
    show (if (5 : Int) = 5 then _ else _) = _
    rw [if_pos rfl]
    congr 2
    · omega
    · omega
theorem once_again {P : PartM} {nx : Nat} (h : OnceP P nx) (hn : nx ≤ 60) (at_ : Int) {m : Int} (hm : m = (nx : Int) - 1) (h0 : 0 ≤ m) : prodM P (batP m) 0 at_ = (P, ⟨10 + 2 * ((nx : Int) - 1), 2, true⟩, 0) := by
  have hask := ask_once h m h0 (by omega)
  rw [if_neg (by omega), if_pos hm] at hask
  exact prodM_again (L := P.log) (d := P.ded) (b := batP m) hask
theorem once_bad {P : PartM} {nx : Nat} (h : OnceP P nx) (at_ : Int) {m : Int} (h0 : 0 ≤ m) (h1 : m ≤ 1000) (hm : m ≠ nx) (hm2 : m ≠ (nx : Int) - 1) : prodM P (batP m) 0 at_ = (P, noDone, 12) := by
  have hask := ask_once h m h0 h1
  rw [if_neg hm, if_neg hm2] at hask
  exact prodM_bad (L := P.log) (d := P.ded) (b := batP m) hask (by decide)
theorem once_first {p : Int} (h0 : 1 ≤ p) (h1 : p ≤ 3) : ∃ M, applyM newSt (entC p 10) 0 0 = (M, ⟨0, 0, false⟩, 0) ∧ partT M.top tN 0 = some (newPart 10) := by
  refine ⟨⟨[(tN, List.replicate p.toNat (newPart 10))], .map []⟩, ?_, ?_⟩
  · rw [applyM_ok (right_C10 h0 h1) (by decide) (by decide), app1 (e := entC p 10) rfl]
    rfl
  · obtain rfl | rfl | rfl : p = 1 ∨ p = 2 ∨ p = 3 := by omega
    · simp [partT, findT]
    · simp [partT, findT, List.replicate]
    · simp [partT, findT, List.replicate]

/-- the log of a partition that is there -/
theorem run_log {w0 w : World} {s N : Nat} {M : StM} {K : Nat → Prop} (h : Run w0 w s N M K) (n : ByteArray) (hn : n.size ≤ 1000) (k : Int) {P : PartM} (hp : partT M.top n k = some P) :
    Calls Tryz.prog 17 #[.pointer (some ⟨s, 0, none⟩), .string n, .int .i64 k] w fun e w' => ∃ (lb : Nat) (Q : Nat → Prop), e = .returned (.pointer (some ⟨lb, 0, none⟩)) ∧ LogAt w Q lb P.log ∧ (∀ i, Q i → ¬ K i) ∧ w = w' := by
  obtain ⟨o, S, h1, rfl, h3, h4, h5⟩ := h
  refine (stLog_any h1 n hn k).mono ?_
  rintro e w' ⟨hr, hw⟩
  rcases hr with ⟨hno, _⟩ | ⟨t, kk, p, a1, a2, a3, a4, a5, rfl⟩
  · rw [hp] at hno
    cases hno
  · rw [hp] at a5
    obtain rfl := Option.some.inj a5
    exact ⟨p.lb, _, rfl, ((h1.tops t a1).log kk p a4).1, fun i hq hk => (by replace hq : o i = some _ := hq; rw [(h4 i hk).1] at hq; cases hq), hw⟩
end Go.Proofs.YtjodiieeocaipaaGreatDoor
