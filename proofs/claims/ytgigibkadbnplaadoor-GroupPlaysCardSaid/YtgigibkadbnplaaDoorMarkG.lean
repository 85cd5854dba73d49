/-
  The document's marks: Get, Forget.
-/
import Derived.Test.YtgigibkadbnplaaDoorMark
namespace Go.Proofs.YtgigibkadbnplaaDoor
open Go.RowKit
attribute [local go_sem ↓] ldM_eq

theorem flat_mk : ∀ (l : List Mk) (k j : Nat) (m : Mk) (u : Value), l[k]? = some m → m.cells[j]? = some u → (l.flatMap Mk.cells)[k * 4 + j]? = some u
  | [], k, j, m, u, h, _ => by simp at h
  | m0 :: l, k, j, m, u, h, hu => by
    have h4 : m0.cells.length = 4 := rfl
    have hj : j < 4 := by
      have := (List.getElem?_eq_some_iff.1 hu).1
      have e : m.cells.length = 4 := rfl
      omega
    rw [List.flatMap_cons]
    cases k with
    | zero =>
      simp at h
      subst h
      rw [Nat.zero_mul, Nat.zero_add, List.getElem?_append_left (by omega)]
      exact hu
    | succ k =>
      rw [List.getElem?_append_right (by omega), h4, show (k + 1) * 4 + j - 4 = k * 4 + j by omega]
      exact flat_mk l k j m u (by simpa using h) hu
theorem flat_len (l : List Mk) : (l.flatMap Mk.cells).length = l.length * 4 := by
  induction l with
  | nil => rfl
  | cons m l ih => rw [List.flatMap_cons, List.length_append, ih]; show 4 + _ = _; simp; omega
/-- the call's own slice of marks -/
def OwnM (w : World) (B : Nat) (A : Option Addr) (n c : Nat) (l : List Mk) : Prop := w.ownsRow B 66 4 (.slice A n c) n (l.flatMap Mk.cells)
theorem OwnM.len {w : World} {B : Nat} {A : Option Addr} {n c : Nat} {l : List Mk} (h : OwnM w B A n c l) : l.length = n := by
  have := h.1
  rw [flat_len] at this
  omega
theorem OwnM.reads {w : World} {B : Nat} {A : Option Addr} {n c : Nat} {l : List Mk} (h : OwnM w B A n c l) : RdM w A n c l := by
  have hlen := h.len
  rcases h.2 with ⟨hv, h0⟩ | ⟨g, cap, cur, hv, hB, hg, hnc, hcm, hsz, htk⟩
  · injection hv with h1 h2 h3
    subst h1 h3
    exact ⟨hlen, by omega, by omega, fun k m hk => by
      have := (List.getElem?_eq_some_iff.1 hk).1
      omega⟩
  · injection hv with h1 h2 h3
    subst h1 h3
    refine ⟨hlen, hnc, by unfold maxLen at hcm; exact hcm, fun k m hk => ⟨g, rfl, ?_, fun j u hu => ?_⟩⟩
    · exact (Array.getElem?_eq_some_iff.1 hg).1
    · have hf := flat_mk l k j m u hk hu
      rw [← htk] at hf
      rw [cell_of_row _ _ _ _ _ _ hg]
      have hlt := (List.getElem?_eq_some_iff.1 hf).1
      rw [List.getElem?_take] at hf
      split at hf
      · simpa using hf
      · cases hf
theorem OwnM.nil (w : World) (B : Nat) : OwnM w B none 0 0 [] := World.ownsRow_nil w B _ _
theorem OwnM.kept {w w' : World} {B : Nat} {A : Option Addr} {n c : Nat} {l : List Mk} (h : OwnM w B A n c l) {row : Option Nat} (hg : w.grownBy w' row) (hne : (Value.slice A n c).ownBlock ≠ row ∨ row = none) : OwnM w' B A n c l := by
  refine World.ownsRow.kept h hg ?_
  rcases hne with hne | rfl
  · cases hv : (Value.slice A n c).ownBlock
    · simp
    · rw [hv] at hne; simpa using hne
  · cases hv : (Value.slice A n c).ownBlock <;> simp
/-- the document's Groups behind block rg -/
structure RefG (w : World) (B rg : Nat) (A : Option Addr) (c : Nat) (l : List Mk) : Prop where
  bk : Bk w rg 41 #[.slice A l.length c]
  own : OwnM w B A l.length c l
  ne : ∀ k, (Value.slice A l.length c).ownBlock = some k → k ≠ rg
theorem RefG.ext {w w' : World} {B rg : Nat} {A : Option Addr} {c : Nat} {l : List Mk} (h : RefG w B rg A c l) (hb : Below w.heap.size w w') : RefG w' B rg A c l :=
  ⟨h.bk.ext hb, h.own.kept (grown_of_below hb) (.inr rfl), h.ne⟩
theorem RefG.cell {w : World} {B rg : Nat} {A : Option Addr} {c : Nat} {l : List Mk} (h : RefG w B rg A c l) : w.cell? ⟨rg, 0, none⟩ = some (.slice A l.length c) := (h.bk.cell 0).trans rfl
/-- a mark's offset -/
def offM (l : List Mk) (a t : ByteArray) (p : Int) : Int := match findM l a t p with | some i => (match l[i]? with | some m => m.o | none => 0) | none => 0

set_option maxRecDepth 100000 in
set_option maxHeartbeats 1000000 in
theorem refMark_any (B rg : Nat) (A : Option Addr) (c : Nat) (l : List Mk) (a t : ByteArray) (p : Int) (w : World) (h : RefG w B rg A c l) :
    Calls Tryd.prog 21 #[.pointer (some ⟨rg, 0, none⟩), .string a, .string t, .int .i64 p] w fun e w' => e = .returned (.tuple #[.int .i64 (offM l a t p), .bool (findM l a t p).isSome]) ∧ Below w.heap.size w w' := by
  have hF := find_any rg A l.length c l a t p w h.cell h.own.reads
  have H := Lib.hid h
  clear h
  cases hf : findM l a t p with
  | none =>
    rw [show findI l a t p = -1 by unfold findI; rw [hf]] at hF
    rw [show offM l a t p = 0 by unfold offM; rw [hf]]
    have HF := Lib.hid hF
    clear hF hf
    go_enter Tryd.func21, Tryd.ntmps21
    go_wp2_with (first | (go_at_call 29; refine HF.out.mono ?_; rintro e w1 ⟨rfl, hb1⟩) | fail)
    go_ret2
    exact ⟨rfl, hb1⟩
  | some i =>
    rw [show findI l a t p = (i : Int) by unfold findI; rw [hf]] at hF
    have hil : i < l.length := by
      unfold findM at hf
      rw [List.findIdx?_eq_some_iff_getElem] at hf
      exact hf.1
    obtain ⟨m, hm⟩ : ∃ m, l[i]? = some m := ⟨_, List.getElem?_eq_getElem hil⟩
    rw [show offM l a t p = m.o by unfold offM; rw [hf]; simp only [hm]]
    have HF := Lib.hid hF
    have HM := Lib.hid hm
    clear hF hf hm
    have hi : (i : Int) < l.length := by omega
    have hcap := H.out.own.reads.cap
    have hbig := H.out.own.reads.big
    go_enter Tryd.func21, Tryd.ntmps21
    go_wp2_with (first | (go_at_call 29; refine HF.out.mono ?_; rintro e w1 ⟨rfl, hb1⟩; have h1 := H.out.ext hb1; have hc1 := h1.cell; obtain ⟨g, rfl, _, hce⟩ := h1.own.reads.cell i m HM.out; have hc3 := hce 3 _ rfl; clear h1 hce) | fail)
    go_ret2
    exact ⟨rfl, hb1⟩
end Go.Proofs.YtgigibkadbnplaaDoor
