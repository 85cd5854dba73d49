/-
  Rows of fields and of values in memory.
-/
import Derived.Test.YtjodiieeocaipaaGreatDoorEEnt
import Derived.Test.YtjodiieeocaipaaGreatDoorCut
import Derived.Deep.MidRow
import Derived.Deep.WholeRow
namespace Go.Proofs.YtjodiieeocaipaaGreatDoor
open Go.RowKit

theorem flat_get {α : Type} (f : α → List Value) (k : Nat) (hf : ∀ x, (f x).length = k) : ∀ (l : List α) (i j : Nat) (x : α) (u : Value), l[i]? = some x → (f x)[j]? = some u → (l.flatMap f)[i * k + j]? = some u
  | [], i, j, x, u, h, _ => by simp at h
  | y :: l, i, j, x, u, h, hu => by
    have h4 := hf y
    have hj : j < k := by
      have := (List.getElem?_eq_some_iff.1 hu).1
      rw [hf] at this
      omega
    rw [List.flatMap_cons]
    cases i with
    | zero =>
      simp at h
      subst h
      rw [Nat.zero_mul, Nat.zero_add, List.getElem?_append_left (by omega)]
      exact hu
    | succ i =>
      have e : (i + 1) * k + j = k + (i * k + j) := by rw [Nat.add_mul]; omega
      rw [e, List.getElem?_append_right (by omega), h4, Nat.add_sub_cancel_left]
      exact flat_get f k hf l i j x u (by simpa using h) hu
theorem flat_len' {α : Type} (f : α → List Value) (k : Nat) (hf : ∀ x, (f x).length = k) (l : List α) : (l.flatMap f).length = l.length * k := by
  induction l with
  | nil => simp
  | cons x l ih => rw [List.flatMap_cons, List.length_append, ih, hf, List.length_cons, Nat.add_mul]; omega
/-- the slice holds rows of k cells -/
structure RdK (w : World) (k : Nat) (A : Option Addr) (n c : Nat) (rows : List (List Value)) : Prop where
  len : rows.length = n
  cap : n ≤ c
  big : c ≤ 9223372036854775807
  cell : ∀ i r, rows[i]? = some r → ∃ g, A = some ⟨g, 0, none⟩ ∧ g < w.heap.size ∧ ∀ j u, r[j]? = some u → w.cell? ⟨g, i * k + j, none⟩ = some u
theorem RdK.ext {w w' : World} {k : Nat} {A : Option Addr} {n c : Nat} {rows : List (List Value)} (h : RdK w k A n c rows) (hb : Below w.heap.size w w') : RdK w' k A n c rows :=
  ⟨h.len, h.cap, h.big, fun i r hr => by
    obtain ⟨g, h1, h2, h3⟩ := h.cell i r hr
    exact ⟨g, h1, Nat.lt_of_lt_of_le h2 hb.size, fun j u hu => (hb.cell (p := ⟨g, i * k + j, none⟩) h2).trans (h3 j u hu)⟩⟩
theorem RdK.nil (w : World) (k : Nat) : RdK w k none 0 0 [] := ⟨rfl, Nat.le_refl _, by omega, fun i r h => by simp at h⟩
theorem RdK.of_bk {w : World} {g k : Nat} {t : TypeId} {cs : Array Value} (hb : Bk w g t cs) {α : Type} (f : α → List Value) (hf : ∀ x, (f x).length = k) (l : List α) (hc : cs = (l.flatMap f).toArray) (n c : Nat) (hn : l.length = n) (hnc : n ≤ c) (hcb : c ≤ 9223372036854775807) :
    RdK w k (some ⟨g, 0, none⟩) n c (l.map f) :=
  ⟨by rw [List.length_map, hn], hnc, hcb, fun i r hr => ⟨g, rfl, hb.lt, fun j u hu => by
    rw [List.getElem?_map] at hr
    obtain ⟨x, hx, rfl⟩ := Option.map_eq_some_iff.1 hr
    rw [hb.cell, hc]
    simp only [List.getElem?_toArray]
    exact flat_get f k hf l i j x u hx hu⟩⟩
theorem RdK.of_own {w : World} {B k : Nat} {t : TypeId} {A : Option Addr} {n c : Nat} {α : Type} (f : α → List Value) (hf : ∀ x, (f x).length = k) (hk : 0 < k) (l : List α) (h : w.ownsRow B t k (.slice A n c) n (l.flatMap f)) : RdK w k A n c (l.map f) := by
  have hlen : l.length = n := by
    have := h.1
    rw [flat_len' f k hf] at this
    exact Nat.eq_of_mul_eq_mul_right hk this
  rcases h.2 with ⟨hv, h0⟩ | ⟨g, cap, cur, hv, hB, hg, hnc, hcm, hsz, htk⟩
  · injection hv with h1 h2 h3
    subst h1 h3
    exact ⟨by rw [List.length_map, hlen], by omega, by omega, fun i m hi => by
      have := (List.getElem?_eq_some_iff.1 hi).1
      rw [List.length_map] at this
      omega⟩
  · injection hv with h1 h2 h3
    subst h1 h3
    refine ⟨by rw [List.length_map, hlen], hnc, by unfold maxLen at hcm; exact hcm, fun i m hi => ⟨g, rfl, ?_, fun j u hu => ?_⟩⟩
    · exact (Array.getElem?_eq_some_iff.1 hg).1
    · rw [List.getElem?_map] at hi
      obtain ⟨x, hx, rfl⟩ := Option.map_eq_some_iff.1 hi
      have hq := flat_get f k hf l i j x u hx hu
      rw [← htk, List.getElem?_take] at hq
      rw [cell_of_row _ _ _ _ _ _ hg, ← hq]
      have hlt : i * k + j < n * k := by
        have := (List.getElem?_eq_some_iff.1 (flat_get f k hf l i j x u hx hu)).1
        rw [flat_len' f k hf, hlen] at this
        exact this
      rw [if_pos hlt, Array.getElem?_toList]

def Fld.cells (f : Fld) : List Value := [.int .i64 f.kind, .int .i64 f.size, .int .i64 f.lo, .int .i64 f.hi, .int .i64 f.most]
def RdF (w : World) (A : Option Addr) (n c : Nat) (l : List Fld) : Prop := RdK w 5 A n c (l.map Fld.cells)
theorem RdF.ext {w w' : World} {A : Option Addr} {n c : Nat} {l : List Fld} (h : RdF w A n c l) (hb : Below w.heap.size w w') : RdF w' A n c l := RdK.ext h hb
/-- a slice of texts -/
def RdT (w : World) (A : Option Addr) (n c : Nat) (l : List ByteArray) : Prop := Rd w w.heap.size A n c (l.map Value.string)
theorem RdT.ext {w w' : World} {A : Option Addr} {n c : Nat} {l : List ByteArray} (h : RdT w A n c l) (hb : Below w.heap.size w w') : RdT w' A n c l := Rd.ext h hb
theorem RdT.nil (w : World) : RdT w none 0 0 [] := Rd.nil w _
theorem RdT.len {w : World} {A : Option Addr} {n c : Nat} {l : List ByteArray} (h : RdT w A n c l) : l.length = n := by have := Rd.len h; rwa [List.length_map] at this
/-- a value with the slice of its texts, as it lies in memory -/
structure MVal where
  v : Val
  A : Option Addr
  n : Nat
  c : Nat
def MVal.cells (m : MVal) : List Value := [.int .i64 m.v.n, .string m.v.s, .slice m.A m.n m.c]
def MVal.ok (w : World) (m : MVal) : Prop := RdT w m.A m.n m.c m.v.l
theorem MVal.ext {w w' : World} {m : MVal} (h : m.ok w) (hb : Below w.heap.size w w') : m.ok w' := RdT.ext h hb
structure RdV (w : World) (A : Option Addr) (n c : Nat) (ms : List MVal) : Prop where
  rows : RdK w 3 A n c (ms.map MVal.cells)
  vals : ∀ m ∈ ms, m.ok w
theorem RdV.ext {w w' : World} {A : Option Addr} {n c : Nat} {l : List MVal} (h : RdV w A n c l) (hb : Below w.heap.size w w') : RdV w' A n c l := ⟨h.rows.ext hb, fun m hm => (h.vals m hm).ext hb⟩
def vsOf (ms : List MVal) : List Val := ms.map MVal.v
def numM (n : Int) : MVal := ⟨nV n, none, 0, 0⟩
def strM (s : ByteArray) : MVal := ⟨sV s, none, 0, 0⟩
theorem numM_ok (w : World) (n : Int) : (numM n).ok w := RdT.nil w
theorem strM_ok (w : World) (s : ByteArray) : (strM s).ok w := RdT.nil w
def ldF (v : Value) : Sem Value := Instr.loadAt 154 v
theorem ldF_eq (v : Value) : Instr.loadAt 154 v = ldF v := rfl
theorem size_f : (Tryz.prog.info? 154).map (·.size) = some 5 := by kernel_rfl
theorem ldF_at {w : World} {g o : Nat} {f : Fld} (h : ∀ j u, f.cells[j]? = some u → w.cell? ⟨g, o + j, none⟩ = some u) : (ldF (.pointer (some ⟨g, o, none⟩))).run Tryz.prog w = .ok (.agg #[.int .i64 f.kind, .int .i64 f.size, .int .i64 f.lo, .int .i64 f.hi, .int .i64 f.most]) w := by
  exact run_loadAt_mid w g o 154 f.cells _ h Tryz.underlying154 rfl size_f
def ldV (v : Value) : Sem Value := Instr.loadAt 150 v
theorem ldV_eq (v : Value) : Instr.loadAt 150 v = ldV v := rfl
theorem size_v : (Tryz.prog.info? 150).map (·.size) = some 3 := by kernel_rfl
theorem ldV_at {w : World} {g o : Nat} {m : MVal} (h : ∀ j u, m.cells[j]? = some u → w.cell? ⟨g, o + j, none⟩ = some u) : (ldV (.pointer (some ⟨g, o, none⟩))).run Tryz.prog w = .ok (.agg #[.int .i64 m.v.n, .string m.v.s, .slice m.A m.n m.c]) w := by
  exact run_loadAt_mid w g o 150 m.cells _ h Tryz.underlying150 rfl size_v
end Go.Proofs.YtjodiieeocaipaaGreatDoor
