/-
  An entry that came in as an argument.
-/
import Derived.Test.YtjodiieeocaipaaGreatDoorOpen
import Derived.Test.YtjodiieeocaipaaGreatDoorEMem
import Derived.SliceStrings
namespace Go.Proofs.YtjodiieeocaipaaGreatDoor
open Go.ChangeShapes Go.WideShapes Go.ChangeAt Go.RowKit
open Go.ChangeMaps (open_string)

theorem one_of {α : Type} {l : List α} {k : Nat} {x : α} (h : (l.drop k).take 1 = [x]) : l[k]? = some x := by
  have h0 : ((l.drop k).take 1)[0]? = some x := by rw [h]; rfl
  rw [List.getElem?_take] at h0
  simp at h0
  exact h0
theorem cells_int' : Tryz.prog.cellsOf 3 = 1 := by kernel_rfl
theorem cells_str' : Tryz.prog.cellsOf 9 = 1 := by kernel_rfl
theorem cells_strs' : Tryz.prog.cellsOf 30 = 1 := by kernel_rfl
theorem cells_bat : Tryz.prog.cellsOf 32 = 4 := by kernel_rfl
theorem cells_ent : Tryz.prog.cellsOf 34 = 11 := by kernel_rfl
def fitI (z : Int) : Prop := -9223372036854775808 ≤ z ∧ z ≤ 9223372036854775807
def Ent.cells (e : Ent) (A : Option Addr) (n c : Nat) : List Value := [.int .i64 e.kind, .string e.topic, .string e.group, .int .i64 e.part, .int .i64 e.parts, .int .i64 e.first, .int .i64 e.off, .int .i64 e.bat.time, .int .i64 e.bat.prod, .int .i64 e.bat.seq, .slice A n c]
structure Ent.ok (q : Ent) : Prop where
  kind : fitI q.kind
  part : fitI q.part
  parts : fitI q.parts
  first : fitI q.first
  off : fitI q.off
  time : fitI q.bat.time
  prod : fitI q.bat.prod
  seq : fitI q.bat.seq
  topic : q.topic.size ≤ maxLen
  group : q.group.size ≤ maxLen
  vals : ∀ s ∈ q.bat.vals, s.size ≤ maxLen
set_option maxRecDepth 100000 in
theorem texts_of {H : Type} {enc : TypeId × Value → H} {W : World} {fuel : Nat} {u : Value} {x : DataW H × List MemPlace} (h : DataW.trod enc Tryz.prog W 0 (fun _ => true) true fuel 30 [u] = some x) : ∃ A n c l, u = .slice A n c ∧ RdT W A n c l ∧ ∀ s ∈ l, s.size ≤ maxLen := by
  rcases open_strings Tryz.underlying30 Tryz.underlying9 cells_str' h with ⟨hcs, _⟩ | ⟨a, len, cap, ss, hcs, _, hl, hm, hz, _, hcell, hsz⟩
  · injection hcs with h1 _
    exact ⟨none, 0, 0, [], h1, RdT.nil W, fun s hs => absurd hs List.not_mem_nil⟩
  · injection hcs with h1 _
    have hz : ss.length = cap := by simpa using hz
    refine ⟨some a, len, cap, ss.take len, h1, ⟨by rw [List.length_map, List.length_take]; omega, hl, by unfold maxLen at hm; exact hm, fun k v hk => ?_⟩, fun s hs => hsz s (List.mem_of_mem_take hs)⟩
    have hkl : k < len := by
      have := (List.getElem?_eq_some_iff.1 hk).1
      rw [List.length_map, List.length_take] at this
      omega
    have hc := hcell k (by omega)
    refine ⟨a, rfl, ?_, ?_⟩
    · have := cell_lt hc
      rwa [add_block] at this
    · have hks : k < ss.length := by omega
      rw [hc, ← hk]
      simp [hkl, hks]
set_option maxRecDepth 100000 in
theorem batch_of {H : Type} {enc : TypeId × Value → H} {W : World} {fuel : Nat} {cs : List Value} {x : DataW H × List MemPlace} (hl : cs.length = 4) (hf : DataW.trod enc Tryz.prog W 0 (fun _ => true) true fuel 32 cs = some x) :
    ∃ t p s A n c l, cs = [.int .i64 t, .int .i64 p, .int .i64 s, .slice A n c] ∧ RdT W A n c l ∧ fitI t ∧ fitI p ∧ fitI s ∧ ∀ s ∈ l, s.size ≤ maxLen := by
  obtain ⟨xs, n, _, _, _, hxs, hfi⟩ := DataW.trod_struct Tryz.underlying32 hf
  have hx6 : xs.length = 4 := hxs
  have num : ∀ (i : Nat) (f : Field), (match Tryz.prog.underlying 32 with | some (.struct fs) => fs | _ => #[])[i]? = some f → f.type = 3 → f.offset = i → i < 4 → ∃ z : Int, cs[i]? = some (.int .i64 z) ∧ fitI z := by
    intro i f hf1 ht ho hi
    have h1 := hfi i f (by rw [Tryz.underlying32] at hf1; exact hf1)
    rw [ht, ho, cells_int', List.getElem?_eq_getElem (by omega)] at h1
    obtain ⟨z, hz, _, hw⟩ := DataW.trod_int Tryz.underlying3 h1
    exact ⟨z, one_of hz, wf_i64 hw⟩
  obtain ⟨a, ha, a1⟩ := num 0 _ (by rw [Tryz.underlying32]; rfl) rfl rfl (by omega)
  obtain ⟨b, hb, b1⟩ := num 1 _ (by rw [Tryz.underlying32]; rfl) rfl rfl (by omega)
  obtain ⟨c, hc, c1⟩ := num 2 _ (by rw [Tryz.underlying32]; rfl) rfl rfl (by omega)
  have sl : ∀ (i : Nat) (f : Field), (match Tryz.prog.underlying 32 with | some (.struct fs) => fs | _ => #[])[i]? = some f → f.type = 30 → f.offset = i → i < 4 → ∃ A n c l, cs[i]? = some (.slice A n c) ∧ RdT W A n c l ∧ ∀ s ∈ l, s.size ≤ maxLen := by
    intro i f hf1 ht ho hi
    have h1 := hfi i f (by rw [Tryz.underlying32] at hf1; exact hf1)
    rw [ht, ho, cells_strs', List.getElem?_eq_getElem (by omega)] at h1
    have hi' : i < cs.length := by omega
    have e1 : (cs.drop i).take 1 = [cs[i]] := by
      rw [List.drop_eq_getElem_cons hi']
      rfl
    rw [e1] at h1
    obtain ⟨A, n, c, l, hu, h2, h3⟩ := texts_of h1
    exact ⟨A, n, c, l, by rw [List.getElem?_eq_getElem hi', hu], h2, h3⟩
  obtain ⟨A, n', c', l, hd, d1, d2⟩ := sl 3 _ (by rw [Tryz.underlying32]; rfl) rfl rfl (by omega)
  refine ⟨a, b, c, A, n', c', l, ?_, d1, a1, b1, c1, d2⟩
  obtain ⟨x0, x1, x2, x3, rfl⟩ : ∃ x0 x1 x2 x3, cs = [x0, x1, x2, x3] := by
    match cs, hl with
    | [x0, x1, x2, x3], _ => exact ⟨x0, x1, x2, x3, rfl⟩
  simp at ha hb hc hd
  subst ha hb hc hd
  rfl
set_option maxRecDepth 100000 in
theorem Came.entry {H : Type} {enc : TypeId × Value → H} {W : World} {base : Nat} {v : Value} {d : DataW H} {p : List MemPlace} (h : Came enc W base 34 v d p) :
    ∃ (e : Ent) (A : Option Addr) (n c : Nat), v = .agg (e.cells A n c).toArray ∧ RdT W A n c e.bat.vals ∧ e.ok := by
  obtain ⟨cs, rfl, hsz⟩ := okWide_struct Tryz.underlying34 h.1
  rw [cells_ent] at hsz
  obtain ⟨fuel, hf⟩ := h.2
  obtain ⟨xs, n, _, _, _, hxs, hfi⟩ := DataW.trod_struct Tryz.underlying34 hf
  have hx8 : xs.length = 8 := hxs
  have num : ∀ (i : Nat) (f : Field), (match Tryz.prog.underlying 34 with | some (.struct fs) => fs | _ => #[])[i]? = some f → f.type = 3 → f.offset = i → i < 8 → ∃ z : Int, cs.toList[i]? = some (.int .i64 z) ∧ fitI z := by
    intro i f hf1 ht ho hi
    have h1 := hfi i f (by rw [Tryz.underlying34] at hf1; exact hf1)
    rw [ht, ho, cells_int', List.getElem?_eq_getElem (by omega)] at h1
    obtain ⟨z, hz, _, hw⟩ := DataW.trod_int Tryz.underlying3 h1
    exact ⟨z, one_of hz, wf_i64 hw⟩
  have str : ∀ (i : Nat) (f : Field), (match Tryz.prog.underlying 34 with | some (.struct fs) => fs | _ => #[])[i]? = some f → f.type = 9 → f.offset = i → i < 8 → ∃ s : ByteArray, cs.toList[i]? = some (.string s) ∧ s.size ≤ maxLen := by
    intro i f hf1 ht ho hi
    have h1 := hfi i f (by rw [Tryz.underlying34] at hf1; exact hf1)
    rw [ht, ho, cells_str', List.getElem?_eq_getElem (by omega)] at h1
    obtain ⟨s, hz, _, hw⟩ := DataW.trod_string Tryz.underlying9 h1
    exact ⟨s, one_of hz, hw⟩
  obtain ⟨a0, h0, b0⟩ := num 0 _ (by rw [Tryz.underlying34]; rfl) rfl rfl (by omega)
  obtain ⟨a1, h1, b1⟩ := str 1 _ (by rw [Tryz.underlying34]; rfl) rfl rfl (by omega)
  obtain ⟨a2, h2, b2⟩ := str 2 _ (by rw [Tryz.underlying34]; rfl) rfl rfl (by omega)
  obtain ⟨a3, h3, b3⟩ := num 3 _ (by rw [Tryz.underlying34]; rfl) rfl rfl (by omega)
  obtain ⟨a4, h4, b4⟩ := num 4 _ (by rw [Tryz.underlying34]; rfl) rfl rfl (by omega)
  obtain ⟨a5, h5, b5⟩ := num 5 _ (by rw [Tryz.underlying34]; rfl) rfl rfl (by omega)
  obtain ⟨a6, h6, b6⟩ := num 6 _ (by rw [Tryz.underlying34]; rfl) rfl rfl (by omega)
  have bt : ∀ (f : Field), (match Tryz.prog.underlying 34 with | some (.struct fs) => fs | _ => #[])[7]? = some f → f.type = 32 → f.offset = 7 → ∃ t p s A n c l, (cs.toList.drop 7).take 4 = [.int .i64 t, .int .i64 p, .int .i64 s, .slice A n c] ∧ RdT W A n c l ∧ fitI t ∧ fitI p ∧ fitI s ∧ ∀ s ∈ l, s.size ≤ maxLen := by
    intro f hf1 ht ho
    have h1 := hfi 7 f (by rw [Tryz.underlying34] at hf1; exact hf1)
    rw [ht, ho, cells_bat, List.getElem?_eq_getElem (by omega)] at h1
    exact batch_of (by simp [hsz]) h1
  obtain ⟨t, q, s, A, n', c', l, h7, b7, b8, b9, b10, b11⟩ := bt _ (by rw [Tryz.underlying34]; rfl) rfl rfl
  refine ⟨⟨a0, a1, a2, a3, a4, a5, a6, ⟨t, q, s, l⟩⟩, A, n', c', ?_, b7, ⟨b0, b3, b4, b5, b6, b8, b9, b10, b1, b2, b11⟩⟩
  congr 1
  apply Array.ext'
  have hlen : cs.toList.length = 11 := by simp [hsz]
  generalize cs.toList = L at h0 h1 h2 h3 h4 h5 h6 h7 hlen
  obtain ⟨x0, x1, x2, x3, x4, x5, x6, x7, x8, x9, x10, rfl⟩ : ∃ x0 x1 x2 x3 x4 x5 x6 x7 x8 x9 x10, L = [x0, x1, x2, x3, x4, x5, x6, x7, x8, x9, x10] := by
    match L, hlen with
    | [x0, x1, x2, x3, x4, x5, x6, x7, x8, x9, x10], _ => exact ⟨x0, x1, x2, x3, x4, x5, x6, x7, x8, x9, x10, rfl⟩
  simp at h0 h1 h2 h3 h4 h5 h6 h7
  obtain ⟨rfl, rfl, rfl, rfl⟩ := h7
  subst h0 h1 h2 h3 h4 h5 h6
  rfl
end Go.Proofs.YtjodiieeocaipaaGreatDoor
