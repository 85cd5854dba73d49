/-
  A slice of asks that came in: its numbers.
-/
import Derived.Test.YtgigibkadbnplaaDoorOpen
import Derived.Deep.Slices
namespace Go.Proofs.YtgigibkadbnplaaDoor
open Go.ChangeShapes Go.WideShapes Go.ChangeAt Go.RowKit
open Go.ChangeMaps (open_string)

theorem one_of {α : Type} {l : List α} {k : Nat} {x : α} (h : (l.drop k).take 1 = [x]) : l[k]? = some x := by
  have h0 : ((l.drop k).take 1)[0]? = some x := by rw [h]; rfl
  rw [List.getElem?_take] at h0
  simp at h0
  exact h0
theorem cells_int' : Tryd.prog.cellsOf 3 = 1 := by kernel_rfl
theorem cells_str' : Tryd.prog.cellsOf 9 = 1 := by kernel_rfl
theorem cells_ask : Tryd.prog.cellsOf 43 = 6 := by kernel_rfl
/-- an ask's numbers and its text -/
structure AskV where
  kind : Int
  g : Int
  t : Int
  p : Int
  o : Int
  raw : ByteArray
def fitI (z : Int) : Prop := -9223372036854775808 ≤ z ∧ z ≤ 9223372036854775807
structure AskV.ok (q : AskV) : Prop where
  kind : fitI q.kind
  g : fitI q.g
  t : fitI q.t
  p : fitI q.p
  o : fitI q.o
  raw : q.raw.size ≤ maxLen
def AskV.cells (q : AskV) : List Value := [.int .i64 q.kind, .int .i64 q.g, .int .i64 q.t, .int .i64 q.p, .int .i64 q.o, .string q.raw]
/-- the slice reads as the asks l -/
structure RdK (w : World) (A : Option Addr) (n c : Nat) (l : Nat → AskV) : Prop where
  cap : n ≤ c
  big : c ≤ 9223372036854775807
  ok : ∀ k, k < n → (l k).ok
  cell : ∀ k, k < n → ∃ ad : Addr, A = some ad ∧ ad.block < w.heap.size ∧ ∀ j u, (l k).cells[j]? = some u → w.cell? (ad.add (k * 6 + j)) = some u
theorem RdK.ext {w w' : World} {A : Option Addr} {n c : Nat} {l : Nat → AskV} (h : RdK w A n c l) (hb : Below w.heap.size w w') : RdK w' A n c l :=
  ⟨h.cap, h.big, h.ok, fun k hk => by
    obtain ⟨ad, h1, h2, h3⟩ := h.cell k hk
    exact ⟨ad, h1, Nat.lt_of_lt_of_le h2 hb.size, fun j u hu => (hb.cell (by rw [add_block]; exact h2)).trans (h3 j u hu)⟩⟩
set_option maxRecDepth 100000 in
theorem ask_of {H : Type} {enc : TypeId × Value → H} {W : World} {fuel : Nat} {cs : List Value} {x : DataW H × List MemPlace} (hl : cs.length = 6) (hf : DataW.trod enc Tryd.prog W 0 (fun _ => true) true fuel 43 cs = some x) : ∃ q : AskV, cs = q.cells ∧ q.ok := by
  obtain ⟨xs, n, _, _, _, hxs, hfi⟩ := DataW.trod_struct Tryd.underlying43 hf
  have hx6 : xs.length = 6 := hxs
  have num : ∀ (i : Nat) (f : Field), (match Tryd.prog.underlying 43 with | some (.struct fs) => fs | _ => #[])[i]? = some f → f.type = 3 → f.offset = i → i < 6 → ∃ z : Int, cs[i]? = some (.int .i64 z) ∧ fitI z := by
    intro i f hf1 ht ho hi
    have h1 := hfi i f (by rw [Tryd.underlying43] at hf1; exact hf1)
    rw [ht, ho, cells_int', List.getElem?_eq_getElem (by omega)] at h1
    obtain ⟨z, hz, _, hw⟩ := DataW.trod_int Tryd.underlying3 h1
    exact ⟨z, one_of hz, wf_i64 hw⟩
  obtain ⟨a, ha, a1⟩ := num 0 _ (by rw [Tryd.underlying43]; rfl) rfl rfl (by omega)
  obtain ⟨b, hb, b1⟩ := num 1 _ (by rw [Tryd.underlying43]; rfl) rfl rfl (by omega)
  obtain ⟨c, hc, c1⟩ := num 2 _ (by rw [Tryd.underlying43]; rfl) rfl rfl (by omega)
  obtain ⟨d, hd, d1⟩ := num 3 _ (by rw [Tryd.underlying43]; rfl) rfl rfl (by omega)
  obtain ⟨e, he, e1⟩ := num 4 _ (by rw [Tryd.underlying43]; rfl) rfl rfl (by omega)
  have str : ∀ (i : Nat) (f : Field), (match Tryd.prog.underlying 43 with | some (.struct fs) => fs | _ => #[])[i]? = some f → f.type = 9 → f.offset = i → i < 6 → ∃ s : ByteArray, cs[i]? = some (.string s) ∧ s.size ≤ maxLen := by
    intro i f hf1 ht ho hi
    have h1 := hfi i f (by rw [Tryd.underlying43] at hf1; exact hf1)
    rw [ht, ho, cells_str', List.getElem?_eq_getElem (by omega)] at h1
    obtain ⟨s, hz, _, hw⟩ := DataW.trod_string Tryd.underlying9 h1
    exact ⟨s, one_of hz, hw⟩
  obtain ⟨s, hs, s1⟩ := str 5 _ (by rw [Tryd.underlying43]; rfl) rfl rfl (by omega)
  refine ⟨⟨a, b, c, d, e, s⟩, ?_, ⟨a1, b1, c1, d1, e1, s1⟩⟩
  obtain ⟨x0, x1, x2, x3, x4, x5, rfl⟩ : ∃ x0 x1 x2 x3 x4 x5, cs = [x0, x1, x2, x3, x4, x5] := by
    match cs, hl with
    | [x0, x1, x2, x3, x4, x5], _ => exact ⟨x0, x1, x2, x3, x4, x5, rfl⟩
  simp at ha hb hc hd he hs
  subst ha hb hc hd he hs
  rfl
set_option maxRecDepth 100000 in
theorem Came.asks {H : Type} {enc : TypeId × Value → H} {W : World} {base : Nat} {v : Value} {d : DataW H} {p : List MemPlace} (h : Came enc W base 37 v d p) : ∃ A n c l, v = .slice A n c ∧ RdK W A n c l := by
  obtain ⟨A, n, c, rfl⟩ := okWide_slice Tryd.underlying37 h.1
  obtain ⟨fuel, hf⟩ := h.2
  rcases Go.Deep.open_slice Tryd.underlying37 hf with ⟨hcs, _⟩ | ⟨a, len, cap, m, n', D, Pl, hcs, _, hl, hm, hmm, _, hi⟩
  · simp [Value.cells] at hcs
    obtain ⟨rfl, rfl, rfl⟩ := hcs
    exact ⟨none, 0, 0, fun _ => ⟨0, 0, 0, 0, 0, ⟨#[]⟩⟩, rfl, Nat.le_refl _, by omega, fun k h => by omega, fun k h => by omega⟩
  · simp [Value.cells] at hcs
    obtain ⟨rfl, rfl, rfl⟩ := hcs
    rw [cells_ask] at hi
    have hget : ∀ i, ∃ q : AskV, i < n → q.ok ∧ a.block < W.heap.size ∧ ∀ j u, q.cells[j]? = some u → W.cell? (a.add (i * 6 + j)) = some u := by
      intro i
      by_cases hin : i < n
      · obtain ⟨cs', hc, ht⟩ := hi i (by rw [hmm]; simp; omega)
        obtain ⟨_, hcl, hat⟩ := World.cells?_some hc
        obtain ⟨q, rfl, hq⟩ := ask_of hcl ht
        have h0 := hat 0 (by omega)
        refine ⟨q, fun _ => ⟨hq, ?_, fun j u hu => ?_⟩⟩
        · have := cell_lt (h0.trans (by rfl))
          rwa [add_block, add_block] at this
        · have hj : j < 6 := by have := (List.getElem?_eq_some_iff.1 hu).1; exact this
          have := hat j hj
          rw [add_add'] at this
          rw [this, hu]
      · exact ⟨⟨0, 0, 0, 0, 0, ⟨#[]⟩⟩, fun h => absurd h hin⟩
    obtain ⟨f, hf'⟩ := Classical.axiomOfChoice hget
    exact ⟨some a, n, c, f, rfl, hl, by unfold maxLen at hm; exact hm, fun k hk => (hf' k hk).1, fun k hk => ⟨a, rfl, (hf' k hk).2.1, (hf' k hk).2.2⟩⟩
end Go.Proofs.YtgigibkadbnplaaDoor
