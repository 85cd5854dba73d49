/-
  Steps out of bytes: the plain function; the walk of script.Decode, and of the document's own.
-/
import Derived.Test.YtcggnphoekmoaaaCrcRef
namespace Go.Proofs.Ytcggnphoekmoaaa
open Go.RowKit

/-- what a step is, as data -/
structure Stp where
  kind : Int
  conn : Int
  n : Int
  s : Int
  place : Int
  x : BitVec 32
  bits : List Int
  bytes : List UInt8
/-- the step of four bytes and what follows them; what is left -/
def stepOf (k n m o : UInt8) (r : List UInt8) : Stp × List UInt8 :=
  match k.toNat % 9 with
  | 0 => (⟨1, w8 n % 4, 0, 0, 0, 0#32, [], r.take m.toNat⟩, r.drop m.toNat)
  | 1 => (⟨2, 0, 0, 0, 0, 0#32, [], []⟩, r)
  | 2 => (⟨3, 0, 0, 0, 0, 0#32, [], []⟩, r)
  | 3 => (⟨4, 0, 0, 0, 0, 0#32, [], []⟩, r)
  | 4 => (⟨5, 0, w8 n, 0, 0, 0#32, [], []⟩, r)
  | 5 => (⟨6, 0, 0, 0, 0, 0#32, [w8 n, w8 m, w8 o], []⟩, r)
  | 6 => (⟨7, 0, w8 n % 8, 0, 0, 0#32, [], []⟩, r)
  | 7 => (⟨8, 0, w8 n % 8, 0, 0, 0#32, [], []⟩, r)
  | _ => (⟨9, 0, w8 n % 8, w8 m, w8 o % 125, BitVec.ofNat 32 (k.toNat + 1), [], []⟩, r)
theorem stepOf_le (k n m o : UInt8) (r : List UInt8) : (stepOf k n m o r).2.length ≤ r.length := by
  unfold stepOf
  split <;> simp
def steps : Nat → List UInt8 → List Stp
  | f + 1, k :: n :: m :: o :: r => (stepOf k n m o r).1 :: steps f (stepOf k n m o r).2
  | _, _ => []
theorem steps_more (f : Nat) : ∀ (g : Nat) (l : List UInt8), l.length ≤ f → l.length ≤ g → steps f l = steps g l := by
  induction f with
  | zero =>
    intro g l h1 _
    obtain rfl : l = [] := List.eq_nil_of_length_eq_zero (by omega)
    cases g <;> rfl
  | succ f ih =>
    intro g l h1 h2
    match l, g with
    | [], g => cases g <;> rfl
    | [_], g => cases g <;> rfl
    | [_, _], g => cases g <;> rfl
    | [_, _, _], g => cases g <;> rfl
    | k :: n :: m :: o :: r, 0 => simp at h2
    | k :: n :: m :: o :: r, g + 1 =>
      show (stepOf k n m o r).1 :: steps f _ = (stepOf k n m o r).1 :: steps g _
      have := stepOf_le k n m o r
      simp at h1 h2
      rw [ih g _ (by omega) (by omega)]
/-- all steps of bytes -/
def stepsOf (l : List UInt8) : List Stp := steps l.length l
theorem stepsOf_cons (k n m o : UInt8) (r : List UInt8) : stepsOf (k :: n :: m :: o :: r) = (stepOf k n m o r).1 :: stepsOf (stepOf k n m o r).2 := by
  unfold stepsOf
  show (stepOf k n m o r).1 :: steps (r.length + 3) _ = _
  have := stepOf_le k n m o r
  rw [steps_more (r.length + 3) _ _ (by omega) (Nat.le_refl _)]
theorem stepsOf_short (l : List UInt8) (h : l.length < 4) : stepsOf l = [] := by
  unfold stepsOf
  match l with
  | [] => rfl
  | [_] => rfl
  | [_, _] => rfl
  | [_, _, _] => rfl
  | _ :: _ :: _ :: _ :: _ => simp at h; omega

set_option maxRecDepth 100000 in
set_option maxHeartbeats 400000 in
theorem clone_any (A : Option Addr) (n c : Nat) (l : List UInt8) (w : World) (hr : RdB w A n c l) (hsmall : n ≤ 1000000) :
    Calls Try.prog 26 #[.slice A n c] w fun e w' => ∃ A' c', e = .returned (.slice A' n c') ∧ (RdB w' A' n c' l ∧ ∀ ad, A' = some ad → w.heap.size ≤ ad.block) ∧ Below w.heap.size w w' := by
  have qT : ∀ (w : World) (a : Option Addr) (n c n' c' : Nat), (binOp .eql 24 (.slice a n c) (.slice none n' c')).run Try.prog w = .ok (.bool a.isNone) w := fun w a n c n' c' => Lib.run_eql_slice_nil w _ _ a n c n' c' Try.underlying24
  rcases A with _ | ad
  · obtain rfl := hr.none_len
    have hl : l = [] := List.eq_nil_of_length_eq_zero hr.len
    have Hl := Lib.hid hl
    clear hl hr
    go_enter Try.func26, Try.ntmps26
    go_wp2
    go_ret
    exact ⟨none, 0, rfl, ⟨by rw [Hl.out]; exact Rd.nil _ _, fun _ h => by cases h⟩, Below.refl _ _⟩
  · have Hr := Lib.hid hr
    have hn : n ≤ 9223372036854775807 := Nat.le_trans hr.cap hr.big
    clear hr
    go_enter Try.func26, Try.ntmps26
    go_wp2_with (at_builtin; refine wpList_append_bytes rfl (.tmp 5) (.tmp 6) rfl w.heap.size w _ [] rfl (OwnB.empty w _ (Nat.le_refl _)) (some ad) n c l rfl (Hr.out.ext ((Below.refl _ _).alloc (Nat.le_refl _) _)) (by simp; omega) ((Below.refl _ _).alloc (Nat.le_refl _) _) (by simp) n (by simp) ?_; intro A2 c2 w2 hown2 hb2 hB2)
    go_ret
    refine ⟨A2, c2, rfl, ⟨?_, fun ad e => hown2.out.own_lt _ (by rw [e]; rfl)⟩, hb2⟩
    have h := hown2.out.rd
    rwa [List.nil_append] at h

/-- a step as it lies in memory -/
structure SRow where
  s : Stp
  bA : Option Addr
  bn : Nat
  bc : Nat
  yA : Option Addr
  yn : Nat
  yc : Nat
def Stp.cells (s : Stp) (b y : Value) : List Value := [.int .i64 s.kind, .int .i64 s.conn, .int .i64 s.n, .int .i64 s.s, .int .i64 s.place, .int .u32 (w32 s.x), b, y]
def SRow.cells (r : SRow) : List Value := r.s.cells (.slice r.bA r.bn r.bc) (.slice r.yA r.yn r.yc)
def bitsV (l : List Int) : List Value := l.map (.int .u64)
/-- a reading that keeps clear of a block -/
def Clear (row : Option Nat) (A : Option Addr) (n : Nat) : Prop := 0 < n → ∀ ad, A = some ad → some ad.block ≠ row
structure SRow.ok (w : World) (row : Option Nat) (r : SRow) : Prop where
  bits : Rd w w.heap.size r.bA r.bn r.bc (bitsV r.s.bits)
  bytes : RdB w r.yA r.yn r.yc r.s.bytes
  cb : Clear row r.bA r.bn
  cy : Clear row r.yA r.yn
theorem Rd.grown {w w' : World} {row : Option Nat} {A : Option Addr} {n c : Nat} {xs : List Value} (h : Rd w w.heap.size A n c xs) (hc : Clear row A n) (hg : w.grownBy w' row) : Rd w' w'.heap.size A n c xs :=
  ⟨h.len, h.cap, h.big, fun k u hu => by
    obtain ⟨ad, e, hb, hce⟩ := h.cell k u hu
    have hn : 0 < n := by have := (List.getElem?_eq_some_iff.1 hu).1; have := h.len; omega
    refine ⟨ad, e, Nat.lt_of_lt_of_le hb hg.size, (World.cell?_of_block (hg.block _ (by rw [add_block]; exact hb) ?_)).trans hce⟩
    rw [add_block]; exact hc hn ad e⟩
theorem Clear.next {w : World} {row row' : Option Nat} {A : Option Addr} {n c : Nat} {xs : List Value} (h : Rd w w.heap.size A n c xs) (hc : Clear row A n) (hr : row' = row ∨ row' = some w.heap.size) : Clear row' A n := fun hn ad e he => by
  rcases hr with rfl | rfl
  · exact hc hn ad e he
  · obtain ⟨ad', e', hb, _⟩ := h.cell 0 (xs[0]'(by have := h.len; omega)) (List.getElem?_eq_getElem _)
    rw [e] at e'
    injection e' with e'
    subst e'
    injection he with he
    omega
theorem SRow.ok.grown {w w' : World} {row row' : Option Nat} {r : SRow} (h : r.ok w row) (hg : w.grownBy w' row) (hr : row' = row ∨ row' = some w.heap.size) : r.ok w' row' :=
  ⟨h.bits.grown h.cb hg, Rd.grown (xs := bvs r.s.bytes) h.bytes h.cy hg, h.cb.next h.bits hr, h.cy.next (xs := bvs r.s.bytes) h.bytes hr⟩
theorem SRow.ok.ext {w w' : World} {row : Option Nat} {r : SRow} (h : r.ok w row) (hb : Below w.heap.size w w') : r.ok w' row :=
  ⟨h.bits.ext hb, h.bytes.ext hb, h.cb, h.cy⟩
/-- a slice of steps of the call's own -/
def OwnS (w : World) (B : Nat) (A : Option Addr) (N c : Nat) (l : List Stp) : Prop :=
  ∃ rows : List SRow, rows.map (·.s) = l ∧ w.ownsRow B 29 8 (.slice A N c) N (rows.flatMap SRow.cells) ∧ ∀ r ∈ rows, r.ok w (Value.slice A N c).ownBlock
theorem OwnS.nil (w : World) (B : Nat) : OwnS w B none 0 0 [] := ⟨[], rfl, World.ownsRow_nil w B _ _, fun _ h => by cases h⟩
theorem OwnS.ext {w w' : World} {B : Nat} {A : Option Addr} {N c : Nat} {l : List Stp} (h : OwnS w B A N c l) (hb : Below w.heap.size w w') : OwnS w' B A N c l := by
  obtain ⟨rows, h1, h2, h3⟩ := h
  refine ⟨rows, h1, ?_, fun r hr => (h3 r hr).ext hb⟩
  exact h2.kept ⟨hb.os, hb.tape, hb.output, hb.size, fun k hk _ => hb.block k hk⟩ (by cases hv : (Value.slice A N c).ownBlock <;> simp) (row := none)
theorem OwnS.drawn {w : World} {B : Nat} {A : Option Addr} {N c : Nat} {l : List Stp} (h : OwnS w B A N c l) (q : Nat) : OwnS (w.drewN q) B A N c l :=
  h.ext (below_drawn (Below.refl _ _) q)
theorem OwnS.push {wm w' : World} {B : Nat} {A A' : Option Addr} {N c c' : Nat} {rows : List SRow} {l : List Stp} (hmap : rows.map (·.s) = l) (hok : ∀ r ∈ rows, r.ok wm (Value.slice A N c).ownBlock)
    (r : SRow) (hr : r.ok wm (Value.slice A N c).ownBlock) (hown : w'.ownsRow B 29 8 (.slice A' (N + 1) c') (N + 1) (rows.flatMap SRow.cells ++ r.cells)) (hg : wm.grownBy w' (Value.slice A N c).ownBlock)
    (hat : (Value.slice A' (N + 1) c').ownBlock = (Value.slice A N c).ownBlock ∨ (Value.slice A' (N + 1) c').ownBlock = some wm.heap.size) : OwnS w' B A' (N + 1) c' (l ++ [r.s]) := by
  refine ⟨rows ++ [r], by rw [List.map_append, hmap]; rfl, by rw [List.flatMap_append]; simpa using hown, fun q hq => ?_⟩
  rcases List.mem_append.1 hq with h | h
  · exact (hok q h).grown hg hat
  · obtain rfl := List.mem_singleton.1 h
    exact hr.grown hg hat
/-- a step without lists -/
theorem SRow.bare (w : World) (row : Option Nat) (s : Stp) (hb : s.bits = []) (hy : s.bytes = []) : SRow.ok w row ⟨s, none, 0, 0, none, 0, 0⟩ :=
  ⟨by rw [hb]; exact Rd.nil _ _, by rw [hy]; exact Rd.nil _ _, fun h => absurd h (Nat.lt_irrefl 0), fun h => absurd h (Nat.lt_irrefl 0)⟩
theorem SRow.one (r : SRow) : ∀ u ∈ r.cells, u.oneCell' = true := by
  intro u hu
  simp only [SRow.cells, Stp.cells, List.mem_cons, List.not_mem_nil, or_false] at hu
  rcases hu with rfl | rfl | rfl | rfl | rfl | rfl | rfl | rfl <;> rfl
theorem cells_new (w : World) (t : TypeId) (fr : Nat × Nat) (cs : Array Value) (news : List Value) (h : cs = news.toArray) (g : Nat) (hg : g = w.heap.size) : ∀ j u, news[j]? = some u → (w.alloc (.cells cs t fr)).cell? ((⟨g, 0, none⟩ : Addr).add j) = some u := by
  intro j u hu
  subst h hg
  rw [Addr.add_none, cell_of_row _ _ _ _ _ _ (heap_alloc_new w _), ← hu]
  simp
/-- a step with three numbers in a block of their own -/
theorem SRow.withBits {w : World} {row : Option Nat} {g : Nat} {t : TypeId} (s : Stp) (a b c : Int) (hg : Bk w g t #[.int .u64 a, .int .u64 b, .int .u64 c]) (hs : s.bits = [a, b, c]) (hy : s.bytes = []) (hrow : some g ≠ row) :
    SRow.ok w row ⟨s, some ⟨g, 0, none⟩, 3, 3, none, 0, 0⟩ := by
  refine ⟨?_, by rw [hy]; exact Rd.nil _ _, fun _ ad e => by injection e with e; subst e; exact hrow, fun h => absurd h (Nat.lt_irrefl 0)⟩
  rw [hs]
  refine ⟨rfl, Nat.le_refl _, by show 3 ≤ _; omega, fun k u hu => ⟨_, rfl, hg.lt, ?_⟩⟩
  rw [Addr.add_none, hg.cell, ← hu]
  simp [bitsV]
theorem SRow.withBytes {w : World} {row : Option Nat} {A : Option Addr} {n c : Nat} (s : Stp) (hr : RdB w A n c s.bytes) (hb : s.bits = []) (hc : Clear row A n) : SRow.ok w row ⟨s, none, 0, 0, A, n, c⟩ :=
  ⟨by rw [hb]; exact Rd.nil _ _, hr, fun h => absurd h (Nat.lt_irrefl 0), hc⟩
theorem bk_made' (w : World) (t : TypeId) (cs : Array Value) (g : Nat) (hg : g = w.heap.size) : Bk (w.alloc (.cells cs t)) g t cs := by subst hg; exact Bk.made w t cs
theorem info_step : (Try.prog.info? 29).map (fun i => (i.zero, i.size, i.bytes)) = some (some (.agg #[.int .i64 0, .int .i64 0, .int .i64 0, .int .i64 0, .int .i64 0, .int .u32 0, .slice none 0 0, .slice none 0 0]), 8, 96) := by kernel_rfl
end Go.Proofs.Ytcggnphoekmoaaa
