import Derived.Test.YtkdlofgfkfhofaaGreatDoorRows
import Derived.WalkKit
import Derived.WalkSpells
import Derived.WalkLawsBesides
import Derived.BigQuiet
import Derived.Deep.QuietTactic
import Derived.Deep.RegionWith
import Derived.Deep.LoopGhost
import Derived.Deep.DeepFit
import Derived.Deep.Draws
import Derived.Laws.OwnMore
import Derived.Lib.Hide
import Derived.IntWalk
import Derived.Lib.SlBytesConst
import Derived.Laws.CopyOwn
import Derived.Deep.OwnRows
import Derived.Maps.AppendAt
import Derived.Deep.AppendLies
import Derived.OwnWalk
/-
  Words for memory that the walks of this seat share: a slice that reads as a list, a block that is known whole.
-/
namespace Go.Proofs.YtkdlofgfkfhofaaGreatDoor
open Go.RowKit

theorem add_block (a : Addr) (n : Nat) : (a.add n).block = a.block := by unfold Addr.add; split <;> rfl
theorem add_add' (a : Addr) (i j : Nat) : (a.add i).add j = a.add (i + j) := by
  unfold Addr.add
  by_cases hi : i = 0 <;> by_cases hj : j = 0 <;> simp [hi, hj, Nat.add_assoc]

theorem add_pos' (a : Addr) (k : Nat) (h : 0 < k) : a.add k = ⟨a.block, a.off + k, none⟩ := by unfold Addr.add; rw [if_neg (by omega)]
/-- The slice '.slice A n c' holds the cells xs, all below block B. -/
structure Rd (w : World) (B : Nat) (A : Option Addr) (n c : Nat) (xs : List Value) : Prop where
  len : xs.length = n
  cap : n ≤ c
  big : c ≤ 9223372036854775807
  cell : ∀ k u, xs[k]? = some u → ∃ ad, A = some ad ∧ ad.block < B ∧ w.cell? (ad.add k) = some u

section
variable {w w' : World} {B B' n c : Nat} {A : Option Addr} {xs : List Value}
theorem Rd.nil (w : World) (B : Nat) : Rd w B none 0 0 [] := ⟨rfl, Nat.le_refl _, by omega, fun k u h => by simp at h⟩
theorem Rd.keep (h : Rd w B A n c xs) (hk : ∀ p : Addr, p.block < B → w'.cell? p = w.cell? p) : Rd w' B A n c xs :=
  ⟨h.len, h.cap, h.big, fun k u hu => by
    obtain ⟨ad, e, hb, hc⟩ := h.cell k u hu
    exact ⟨ad, e, hb, (hk _ (by rw [add_block]; exact hb)).trans hc⟩⟩
theorem Rd.more (h : Rd w B A n c xs) (hB : B ≤ B') : Rd w B' A n c xs :=
  ⟨h.len, h.cap, h.big, fun k u hu => by
    obtain ⟨ad, e, hb, hc⟩ := h.cell k u hu
    exact ⟨ad, e, by omega, hc⟩⟩
theorem Rd.setFar (h : Rd w w.heap.size A n c xs) (p : Addr) (u : Value) (hp : ∀ ad, A = some ad → ad.block ≠ p.block) : Rd (w.setCell p u) (w.setCell p u).heap.size A n c xs :=
  ⟨h.len, h.cap, h.big, fun k v hv => by
    obtain ⟨ad, e, hb, hc⟩ := h.cell k v hv
    refine ⟨ad, e, by simpa [World.setCell] using hb, (World.cell?_setCell_other w p (ad.add k) u (fun e' => hp ad e ?_)).trans hc⟩
    rw [e', add_block]⟩
theorem Rd.below (h : Rd w B A n c xs) (hb : Below B w w') : Rd w' B A n c xs := h.keep fun _ hp => hb.cell hp
theorem Rd.ext (h : Rd w w.heap.size A n c xs) (hb : Below w.heap.size w w') : Rd w' w'.heap.size A n c xs := (h.below hb).more hb.size
theorem Rd.get {k : Nat} (h : Rd w B A n c xs) (hk : k < n) : ∃ ad, A = some ad ∧ ad.block < B ∧ w.cell? (ad.add k) = some (xs[k]'(by have := h.len; omega)) :=
  h.cell k _ (List.getElem?_eq_getElem _)
end

/-- Block g is the cells cs of element type t, none frozen. -/
def Bk (w : World) (g : Nat) (t : TypeId) (cs : Array Value) : Prop := w.heap[g]? = some (.cells cs t (0, 0))
section
variable {w w' : World} {g : Nat} {t : TypeId} {cs : Array Value}
theorem Bk.lt (h : Bk w g t cs) : g < w.heap.size := by
  rcases Nat.lt_or_ge g w.heap.size with hlt | hge
  · exact hlt
  · unfold Bk at h; rw [Array.getElem?_eq_none hge] at h; cases h
theorem Bk.cell (h : Bk w g t cs) (i : Nat) : w.cell? ⟨g, i, none⟩ = cs[i]? := cell_of_row w g i cs t (0, 0) h
theorem Bk.thaw (h : Bk w g t cs) (i : Nat) : w.frozen? ⟨g, i, none⟩ = false := by
  unfold Bk at h
  simp [World.frozen?, h]
theorem Bk.made (w : World) (t : TypeId) (cs : Array Value) : Bk (w.alloc (.cells cs t)) w.heap.size t cs := heap_alloc_new w _
theorem Bk.alloc (h : Bk w g t cs) (o : Obj) : Bk (w.alloc o) g t cs := (Below.heap_alloc w o g h.lt).trans h
theorem Bk.put (h : Bk w g t cs) (i : Nat) (u : Value) : Bk (w.setCell ⟨g, i, none⟩ u) g t (cs.setIfInBounds i u) := by
  unfold Bk at h ⊢
  simp [World.setCell, Array.getElem?_modify, h]
theorem Bk.far (h : Bk w g t cs) {p : Addr} (hp : g ≠ p.block) (u : Value) : Bk (w.setCell p u) g t cs := (Below.heap_setCell w p u g hp).trans h
theorem Bk.below {B : Nat} (h : Bk w g t cs) (hb : Below B w w') (hg : g < B) : Bk w' g t cs := (hb.block g hg).trans h
theorem Bk.ext (h : Bk w g t cs) (hb : Below w.heap.size w w') : Bk w' g t cs := h.below hb h.lt
theorem Bk.drawn (h : Bk w g t cs) (k : Nat) : Bk (w.drewN k) g t cs := h
theorem Bk.drawn1 (h : Bk w g t cs) : Bk w.drew g t cs := h
end

/- numbers of 32 and 8 bits, closed to the walk's simp -/
def w32 (c : BitVec 32) : Int := (c.toNat : Int)
def w8 (b : UInt8) : Int := (b.toNat : Int)
theorem w32_lt (c : BitVec 32) : 0 ≤ w32 c ∧ w32 c < 4294967296 := by unfold w32; have := c.isLt; omega
theorem w8_lt (c : UInt8) : 0 ≤ w8 c ∧ w8 c < 256 := by unfold w8; have := c.toNat_lt; omega
theorem w8_inj {a b : UInt8} (h : w8 a = w8 b) : a = b := by unfold w8 at h; exact UInt8.toNat_inj.1 (by omega)
theorem xor_u32 (a b : BitVec 32) : bits .xor .u32 (w32 a) (w32 b) = w32 (a ^^^ b) := by
  unfold w32; rw [u32_xor_nat _ _ a.isLt b.isLt, BitVec.toNat_xor]
theorem xor_u8 (a b : UInt8) : bits .xor .u8 (w8 a) (w8 b) = w8 (a ^^^ b) := by
  unfold w8; rw [u8_xor_nat _ _ a.toNat_lt b.toNat_lt, UInt8.toNat_xor]
theorem not_u32 (a : BitVec 32) : bits .xor .u32 IntKind.u32.max (w32 a) = w32 (~~~ a) := by
  have e : IntKind.u32.max = w32 (BitVec.allOnes 32) := rfl
  rw [e, xor_u32, BitVec.allOnes_xor]
/-- the lowest byte -/
def lowB (c : BitVec 32) : UInt8 := ⟨c.setWidth 8⟩
theorem low_u32 (c : BitVec 32) : w32 c % (256 : Int) = w8 (lowB c) := by
  unfold w32 w8 lowB
  show _ = (((c.setWidth 8).toNat : Nat) : Int)
  rw [BitVec.toNat_setWidth]
  omega
theorem shr8_u32 (c : BitVec 32) : w32 c / (256 : Int) = w32 (c >>> 8) := by
  unfold w32
  rw [BitVec.toNat_ushiftRight, Nat.shiftRight_eq_div_pow]
  omega
theorem shr1_u32 (c : BitVec 32) : w32 c / (2 : Int) = w32 (c >>> 1) := by
  unfold w32
  rw [BitVec.toNat_ushiftRight, Nat.shiftRight_eq_div_pow]
  omega
theorem and1_u32 (c : BitVec 32) : bits .and .u32 (w32 c) 1 = if c.getLsbD 0 then 1 else 0 := by
  have h := u32_and_nat c.toNat 1 c.isLt (by omega)
  unfold w32
  rw [show (1 : Int) = ((1 : Nat) : Int) from rfl, h, nat_mask1]
  have e : c.getLsbD 0 = decide (c.toNat % 2 = 1) := by
    simp [BitVec.getLsbD, Nat.testBit_zero]
  rw [e]
  by_cases hb : c.toNat % 2 = 1
  · simp [hb]
  · have : c.toNat % 2 = 0 := by omega
    simp [this]
theorem w8_nn (b : UInt8) : (0 ≤ w8 b) = True := by simp [(w8_lt b).1]
theorem w8_256 (b : UInt8) : (w8 b < 256) = True := by simp [(w8_lt b).2]
theorem wrap_i64_w8 (b : UInt8) : IntKind.i64.wrap (w8 b) = w8 b := by
  have := w8_lt b
  rw [IntKind.wrap_i64]; omega
theorem wrap64_w8 (b : UInt8) : wrap64 (w8 b) = w8 b := by
  have := w8_lt b
  exact IntWalk.wrap64_in _ ⟨by omega, by omega⟩
theorem signed_u32 : IntKind.u32.signed = false := rfl

/-- a byte as a value; bytes as values -/
def bv (x : UInt8) : Value := .int .u8 (w8 x)
def bvs (l : List UInt8) : List Value := l.map bv
theorem bvs_len (l : List UInt8) : (bvs l).length = l.length := by simp [bvs]
theorem bvs_get (l : List UInt8) (k : Nat) (h : k < l.length) : (bvs l)[k]? = some (bv l[k]) := by simp [bvs, h]

/-- '.slice A n c' holds the bytes l -/
def RdB (w : World) (A : Option Addr) (n c : Nat) (l : List UInt8) : Prop := Rd w w.heap.size A n c (bvs l)
theorem RdB.len {w : World} {A : Option Addr} {n c : Nat} {l : List UInt8} (h : RdB w A n c l) : l.length = n := by rw [← bvs_len]; exact Rd.len h
theorem RdB.get {w : World} {A : Option Addr} {n c : Nat} {l : List UInt8} (h : RdB w A n c l) {k : Nat} (hk : k < n) :
    ∃ ad x, A = some ad ∧ Hid (l.take (k + 1) = l.take k ++ [x]) ∧ Hid (l[k]? = some x) ∧ w.cell? (ad.add k) = some (.int .u8 (w8 x)) := by
  have hl : k < l.length := by have := h.len; omega
  obtain ⟨ad, e, _, hc⟩ := Rd.get h hk
  refine ⟨ad, l[k], e, ?_, List.getElem?_eq_getElem hl, hc.trans ?_⟩
  · show l.take (k + 1) = _
    rw [List.take_succ_eq_append_getElem hl]
  · simp [bvs, bv]
theorem RdB.upto {w : World} {A : Option Addr} {n c : Nat} {l : List UInt8} (h : RdB w A n c l) (k : Nat) (hk : k ≤ n) : RdB w A k c (l.take k) := by
  have hl := h.len
  refine ⟨by rw [bvs_len, List.length_take]; omega, Nat.le_trans hk (Rd.cap h), Rd.big h, fun j u hu => Rd.cell h j u ?_⟩
  have hj := (List.getElem?_eq_some_iff.1 hu).1
  rw [bvs_len, List.length_take] at hj
  have hjk : j < k := Nat.lt_of_lt_of_le hj (Nat.min_le_left _ _)
  rw [← hu]
  simp [bvs, hjk]
/-- 'b[k:]': where the room ends there the model keeps the old address -/
theorem RdB.past {w : World} {A : Option Addr} {n c : Nat} {l : List UInt8} (h : RdB w A n c l) (k : Nat) (hk : k ≤ n) :
    RdB w (if c = k then A else A.map (·.add k)) (n - k) (c - k) (l.drop k) := by
  have hl := h.len
  have hc := Rd.cap h
  have hb := Rd.big h
  refine ⟨by rw [bvs_len, List.length_drop]; omega, by omega, by omega, fun j u hu => ?_⟩
  have hj := (List.getElem?_eq_some_iff.1 hu).1
  rw [bvs_len, List.length_drop] at hj
  obtain ⟨ad, e, hlt, hce⟩ := Rd.cell h (k + j) u (by rw [← hu]; simp [bvs])
  refine ⟨ad.add k, by rw [if_neg (by omega), e]; rfl, by rw [add_block]; exact hlt, by rw [add_add']; exact hce⟩
theorem RdB.drawn {w : World} {A : Option Addr} {n c : Nat} {l : List UInt8} (h : RdB w A n c l) (k : Nat) : RdB (w.drewN k) A n c l := Rd.keep (w := w) (w' := w.drewN k) h fun _ _ => rfl
theorem RdB.none_len {w : World} {n c : Nat} {l : List UInt8} (h : RdB w none n c l) : n = 0 := by
  rcases Nat.eq_zero_or_pos n with h0 | h0
  · exact h0
  · obtain ⟨_, _, e, _⟩ := h.get h0; cases e
theorem RdB.ext {w w' : World} {A : Option Addr} {n c : Nat} {l : List UInt8} (h : RdB w A n c l) (hb : Below w.heap.size w w') : RdB w' A n c l := Rd.ext h hb

/-- block g holds the bytes l, of element type t -/
def Bb (w : World) (g : Nat) (t : TypeId) (l : List UInt8) : Prop := Bk w g t (bvs l).toArray
section
variable {w w' : World} {g : Nat} {t : TypeId} {l : List UInt8}
theorem Bb.lt (h : Bb w g t l) : g < w.heap.size := Bk.lt h
theorem Bb.cell (h : Bb w g t l) (i : Nat) (hi : i < l.length) : w.cell? ⟨g, i, none⟩ = some (.int .u8 (w8 l[i])) := by
  rw [Bk.cell h]; simp [bvs, bv, hi]
theorem Bb.get (h : Bb w g t l) {i : Nat} (hi : i < l.length) : ∃ x, Hid (l[i]? = some x) ∧ w.cell? ⟨g, i, none⟩ = some (.int .u8 (w8 x)) :=
  ⟨l[i], List.getElem?_eq_getElem hi, h.cell i hi⟩
theorem Bb.thaw (h : Bb w g t l) (i : Nat) : w.frozen? ⟨g, i, none⟩ = false := Bk.thaw h i
theorem Bb.put (h : Bb w g t l) (i : Nat) (x : UInt8) : Bb (w.setCell ⟨g, i, none⟩ (.int .u8 (w8 x))) g t (l.set i x) := by
  have := Bk.put h i (.int .u8 (w8 x))
  unfold Bb
  have e : (bvs (l.set i x)).toArray = (bvs l).toArray.setIfInBounds i (.int .u8 (w8 x)) := by
    unfold bvs
    rw [List.map_set]
    simp [bv]
  rw [e]; exact this
theorem Bb.below {B : Nat} (h : Bb w g t l) (hb : Below B w w') (hg : g < B) : Bb w' g t l := Bk.below h hb hg
theorem Bb.ext (h : Bb w g t l) (hb : Below w.heap.size w w') : Bb w' g t l := Bk.ext h hb
theorem Bb.drawn (h : Bb w g t l) (k : Nat) : Bb (w.drewN k) g t l := h
theorem Bb.drawn1 (h : Bb w g t l) : Bb w.drew g t l := h
theorem Bb.reads (h : Bb w g t l) (off n c : Nat) (hn : off + n ≤ l.length) (hc : n ≤ c) (hc' : c ≤ 9223372036854775807) :
    RdB w (some ⟨g, off, none⟩) n c ((l.drop off).take n) := by
  refine ⟨by rw [bvs_len]; simp; omega, hc, hc', fun k u hu => ⟨_, rfl, h.lt, ?_⟩⟩
  have hk : k < n := by
    have := (List.getElem?_eq_some_iff.1 hu).1
    rw [bvs_len] at this
    simp at this; omega
  have e : (Addr.mk g off none).add k = ⟨g, off + k, none⟩ := by
    unfold Addr.add
    by_cases h0 : k = 0 <;> simp [h0]
  rw [e, h.cell (off + k) (by omega), ← hu]
  simp [bvs, hk, List.getElem?_drop]
  rw [List.getElem?_eq_getElem (by omega)]; rfl
theorem Bb.whole (h : Bb w g t l) (n c : Nat) (hn : n = l.length) (hc : n ≤ c) (hc' : c ≤ 9223372036854775807) : RdB w (some ⟨g, 0, none⟩) n c l := by
  have := h.reads 0 n c (by omega) hc hc'
  rwa [List.drop_zero, hn, List.take_length, ← hn] at this
end
theorem Addr.add_none (g off k : Nat) : (Addr.mk g off none).add k = ⟨g, off + k, none⟩ := by
  unfold Addr.add
  by_cases h0 : k = 0 <;> simp [h0]

/-- new bytes laid over old ones from a place on -/
def laid (old : List UInt8) (off : Nat) (new : List UInt8) : List UInt8 := old.take off ++ (new ++ old.drop (off + new.length))
theorem laid_len (old new : List UInt8) (off : Nat) (h : off + new.length ≤ old.length) : (laid old off new).length = old.length := by
  unfold laid; simp; omega

/-- n times one byte (a plain name: the walk writes a list of a literal length out) -/
def rep (n : Nat) (m : UInt8) : List UInt8 := List.replicate n m
theorem rep_len (n : Nat) (m : UInt8) : (rep n m).length = n := by simp [rep]
/-- a new block of n bytes, all 0 -/
def zeroBytes (n : Nat) : Obj := .cells (bvs (List.replicate n 0)).toArray 5
theorem Bb.made (w : World) (n : Nat) : Bb (w.alloc (zeroBytes n)) w.heap.size 5 (List.replicate n 0) := Bk.made w _ _
theorem info_byte : (Tryz.prog.info? 5).map (fun i => (i.zero, i.size, i.bytes)) = some (some (.int .u8 0), 1, 1) := by kernel_rfl
theorem size_byte : (Tryz.prog.info? 5).map (·.size) = some 1 := by kernel_rfl
theorem mk_bytes (n : Nat) (z : Int) (hz : z = n) (hn : n ≤ 140737488355328) (w : World) :
    (Instr.makeSlice 26 (.int .i64 z) (.int .i64 z)).run Tryz.prog w = .ok (.slice (some ⟨w.heap.size, 0, none⟩) n n) (w.alloc (zeroBytes n)) := by
  subst hz
  rw [run_make_row' 26 5 (.int .u8 0) 1 Tryz.underlying26 info_byte rfl .i64 .i64 n (by omega) (by omega) w]
  have e : madeCells #[Value.int .u8 0] n = (bvs (List.replicate n 0)).toArray := by
    apply Array.ext
    · simp [madeCells, bvs]
    · intro i h1 h2
      simp [madeCells, bvs, bv, Nat.mod_one]
      rfl
  rw [e]; rfl

/-- a new block of bytes, whatever its mark, read from its head -/
theorem RdB.const (w : World) (l : List UInt8) (C : Array Value) (hC : C = (bvs l).toArray) (e : TypeId) (fr : Nat × Nat) (n : Nat) (hn : n = l.length) (hb : n ≤ 9223372036854775807) :
    RdB (w.alloc (.cells C e fr)) (some ⟨w.heap.size, 0, none⟩) n n l := by
  subst hC hn
  refine ⟨bvs_len l, Nat.le_refl _, hb, fun k u hu => ⟨_, rfl, by simp, ?_⟩⟩
  rw [Addr.add_none, cell_of_row _ _ _ _ _ _ (heap_alloc_new w _), ← hu]
  simp
/-- 'min(len(b), k)' under a name: the equation is the walk's own spelling -/
theorem cut_min (n : Nat) (k : Int) (hk : 0 ≤ k) : ∃ m : Nat, (if k < (n : Int) then k else (n : Int)) = (m : Int) ∧ m ≤ n ∧ (m : Int) ≤ k ∧ Hid (m = n ∨ (m : Int) = k) := by
  by_cases h : k < (n : Int)
  · exact ⟨k.toNat, by rw [if_pos h]; omega, by omega, by omega, .inr (by omega)⟩
  · exact ⟨n, by rw [if_neg h], by omega, by omega, .inl rfl⟩

/-- A region that draws its order, whose calls may make memory but hand back values that do not hang on where it lies: one walk in the order of the text. The class of worlds: w, and what was there is as it was. -/
def Ext (w : World) : Type := { w' : World // Below w.heap.size w w' }
instance (w : World) : Nonempty (Ext w) := ⟨⟨w, Below.refl _ _⟩⟩
def Ext.w {w : World} (t : Ext w) : World := t.1
theorem Ext.below {w : World} (t : Ext w) : Below w.heap.size w t.w := t.2
theorem wp_region_ext {P : Program} {id : Nat} {Q : Exit → Act → World → Prop} {a : Act} {w : World} {l : List Oper} (hm : P.follows .mixedOrders = true) (hB : Region.lexB .any l.toArray = true)
    (h : wpQuiet P l.toArray (fun w' => ∃ t : Ext w, w' = t.w) (fun a' => ∀ w', (∃ t : Ext w, w' = t.w) → Q .normal a' w') l a) : (Code.region id l.toArray true).wp P Q a w :=
  wp_region_quiet (C := fun w' => ∃ t : Ext w, w' = t.w) hm hB ⟨⟨w.drew, ⟨rfl, rfl, rfl, Nat.le_refl _, fun _ _ => rfl⟩⟩, rfl⟩ (by simpa using h)
theorem ext_of {P : Program} {f : FuncId} {args : Array Value} {w : World} {t : Ext w} {v : Value}
    (h : Calls P f args t.w fun e w' => e = .returned v ∧ Below t.w.heap.size t.w w') : Calls P f args t.w fun e w'' => e = .returned v ∧ ∃ t' : Ext w, w'' = t'.w :=
  h.mono fun _ w' ⟨he, hb⟩ => ⟨he, ⟨⟨w', t.below.trans (hb.mono t.below.size)⟩, rfl⟩⟩
theorem ext_of_same {P : Program} {f : FuncId} {args : Array Value} {w : World} {t : Ext w} {v : Value}
    (h : Calls P f args t.w fun e w' => e = .returned v ∧ t.w = w') : Calls P f args t.w fun e w'' => e = .returned v ∧ ∃ t' : Ext w, w'' = t'.w :=
  h.mono fun _ _ ⟨he, hb⟩ => ⟨he, ⟨t, hb.symm⟩⟩
/-- a slice of bytes of the call's own, from block B on: it may be appended to -/
def OwnB (w : World) (B : Nat) (v : Value) (l : List UInt8) : Prop := w.ownsRow B 5 1 v l.length (bvs l)
/-- block g, of so many cells, begins with the bytes l; they may be written -/
structure OwnAt (w : World) (g cap : Nat) (l : List UInt8) : Prop where
  room : l.length ≤ cap
  big : cap ≤ 9223372036854775807
  at_ : ∃ cur, Bk w g 5 cur ∧ cur.size = cap ∧ cur.toList.take l.length = bvs l
theorem OwnB.nil (w : World) (B : Nat) : OwnB w B (.slice none 0 0) [] := World.ownsRow_nil w B _ _
theorem OwnB.empty (w : World) (B : Nat) (hB : B ≤ w.heap.size) : OwnB (w.alloc (.cells #[] 5)) B (.slice (some ⟨w.heap.size, 0, none⟩) 0 0) [] := World.ownsRow_made w #[] 0 hB (Nat.zero_le _) rfl
theorem OwnB.open_ {w : World} {B : Nat} {v : Value} {l : List UInt8} (h : OwnB w B v l) : (v = .slice none 0 0 ∧ l = []) ∨ ∃ g cap, v = .slice (some ⟨g, 0, none⟩) l.length cap ∧ B ≤ g ∧ OwnAt w g cap l := by
  rcases h.2 with ⟨h1, h2⟩ | ⟨g, cap, cur, h1, h2, h3, h4, h5, h6, h7⟩
  · exact .inl ⟨h1, List.eq_nil_of_length_eq_zero h2⟩
  · exact .inr ⟨g, cap, h1, h2, h4, h5, cur, h3, by simpa using h6, by simpa using h7⟩
section
variable {w w' : World} {g cap : Nat} {l : List UInt8}
theorem OwnAt.lt (h : OwnAt w g cap l) : g < w.heap.size := by obtain ⟨_, hb, _⟩ := h.at_; exact hb.lt
theorem OwnAt.get (h : OwnAt w g cap l) {i : Nat} (hi : i < l.length) : ∃ x, Hid (l[i]? = some x) ∧ w.cell? ⟨g, i, none⟩ = some (.int .u8 (w8 x)) := by
  obtain ⟨cur, hb, hs, ht⟩ := h.at_
  refine ⟨l[i], List.getElem?_eq_getElem hi, ?_⟩
  have e := bvs_get l i hi
  rw [← ht, List.getElem?_take, if_pos hi] at e
  rw [hb.cell]
  simpa [bv] using e
theorem OwnAt.thaw (h : OwnAt w g cap l) (i : Nat) : w.frozen? ⟨g, i, none⟩ = false := by obtain ⟨_, hb, _⟩ := h.at_; exact hb.thaw i
theorem OwnAt.put (h : OwnAt w g cap l) (i : Nat) (x : UInt8) : OwnAt (w.setCell ⟨g, i, none⟩ (.int .u8 (w8 x))) g cap (l.set i x) := by
  obtain ⟨cur, hb, hs, ht⟩ := h.at_
  refine ⟨by simpa using h.room, h.big, cur.setIfInBounds i (.int .u8 (w8 x)), hb.put i _, by simpa using hs, ?_⟩
  have e : bvs (l.set i x) = (bvs l).set i (.int .u8 (w8 x)) := by unfold bvs; rw [List.map_set]; rfl
  rw [List.length_set, Array.toList_setIfInBounds, List.take_set, ht, e]
theorem OwnAt.below {B : Nat} (h : OwnAt w g cap l) (hb : Below B w w') (hg : g < B) : OwnAt w' g cap l := by
  obtain ⟨cur, h1, h2⟩ := h.at_
  exact ⟨h.room, h.big, cur, h1.below hb hg, h2⟩
theorem OwnAt.ext (h : OwnAt w g cap l) (hb : Below w.heap.size w w') : OwnAt w' g cap l := h.below hb h.lt
theorem OwnAt.drawn (h : OwnAt w g cap l) (k : Nat) : OwnAt (w.drewN k) g cap l := ⟨h.room, h.big, h.at_⟩
theorem OwnAt.own (h : OwnAt w g cap l) {B : Nat} (hB : B ≤ g) (N : Nat) (hN : l.length = N) : OwnB w B (.slice (some ⟨g, 0, none⟩) N cap) l := by
  subst hN
  obtain ⟨cur, h1, h2, h3⟩ := h.at_
  exact ⟨by rw [bvs_len]; omega, .inr ⟨g, cap, cur, rfl, hB, h1, h.room, h.big, by simpa using h2, by simpa using h3⟩⟩
theorem OwnAt.reads (h : OwnAt w g cap l) (off n c : Nat) (hn : off + n ≤ l.length) (hc : n ≤ c) (hc' : c ≤ 9223372036854775807) :
    RdB w (some ⟨g, off, none⟩) n c ((l.drop off).take n) := by
  refine ⟨by rw [bvs_len]; simp; omega, hc, hc', fun k u hu => ⟨_, rfl, h.lt, ?_⟩⟩
  have hk : k < n := by
    have := (List.getElem?_eq_some_iff.1 hu).1
    rw [bvs_len] at this
    simp at this; omega
  obtain ⟨x, hx, hc⟩ := h.get (i := off + k) (by omega)
  rw [Addr.add_none, hc, ← hu]
  have hx := hx.out
  simp [bvs, hk, List.getElem?_drop, hx, bv]
theorem OwnAt.whole (h : OwnAt w g cap l) (n c : Nat) (hn : n = l.length) (hc : n ≤ c) (hc' : c ≤ 9223372036854775807) : RdB w (some ⟨g, 0, none⟩) n c l := by
  have := h.reads 0 n c (by omega) hc hc'
  rwa [List.drop_zero, hn, List.take_length, ← hn] at this
end
theorem OwnB.reads {w : World} {B : Nat} {v : Value} {l : List UInt8} (h : OwnB w B v l) : ∃ A c, v = .slice A l.length c ∧ RdB w A l.length c l := by
  rcases h.open_ with ⟨rfl, rfl⟩ | ⟨g, cap, rfl, _, ho⟩
  · exact ⟨none, 0, rfl, Rd.nil _ _⟩
  · exact ⟨_, cap, rfl, ho.whole _ _ rfl ho.room ho.big⟩
theorem OwnB.rd {w : World} {B : Nat} {A : Option Addr} {N c : Nat} {l : List UInt8} (h : OwnB w B (.slice A N c) l) : RdB w A N c l := by
  obtain ⟨A', c', e, hq⟩ := h.reads
  injection e with e1 e2 e3
  subst e1 e3
  rw [← e2] at hq
  exact hq
theorem OwnB.own_lt {w : World} {B : Nat} {v : Value} {l : List UInt8} (h : OwnB w B v l) : ∀ k, v.ownBlock = some k → B ≤ k := fun k hk => (World.ownsRow.lt h k hk).1

theorem info_byte' : ∃ i, Tryz.prog.info? 5 = some i ∧ i.zero = some (.int .u8 0) ∧ i.size = 1 ∧ i.bytes = 1 := info_parts info_byte
set_option maxRecDepth 100000 in
theorem run_append_bytes (w : World) (B : Nat) (ty : TypeId) (v : Value) (l : List UInt8) (hown : OwnB w B v l) (A : Option Addr) (m c : Nat) (new : List UInt8) (hr : RdB w A m c new)
    (hsmall : l.length + m ≤ 140737488355328) (hB : B ≤ w.heap.size) :
    ∃ v' w', (Builtin.append_ #[26, 26] ty #[v, .slice A m c]).run Tryz.prog w = .ok v' w' ∧ OwnB w' B v' (l ++ new) ∧ w.grownBy w' v.ownBlock := by
  obtain ⟨i, hi, hz, hs, hby⟩ := info_byte'
  have hlen := hr.len
  have hfin : ∀ {v' : Value} {w' : World}, w'.ownsRow B 5 1 v' (l.length + m) (bvs l ++ bvs new) → OwnB w' B v' (l ++ new) := fun h => by
    unfold OwnB
    rw [List.length_append, hlen, show bvs (l ++ new) = bvs l ++ bvs new from List.map_append]
    exact h
  rcases A with _ | ad
  · have hm : m = 0 := by
      rcases Nat.eq_zero_or_pos m with h0 | h0
      · exact h0
      · obtain ⟨ad, _, h, _⟩ := hr.get h0; cases h
    subst hm
    obtain rfl : new = [] := List.eq_nil_of_length_eq_zero hlen
    refine ⟨v, w, ?_, by simpa using hown, ⟨rfl, rfl, rfl, Nat.le_refl _, fun _ _ _ => rfl⟩⟩
    rcases hown.2 with ⟨rfl, _⟩ | ⟨g, cap, cur, rfl, _, _, hnc, _⟩
    · simp [Builtin.append_, run_underlying Tryz.underlying26, sizeOf, typeInfo, hi, Builtin.lenOf, Builtin.firstCells]
    · simp [Builtin.append_, run_underlying Tryz.underlying26, sizeOf, typeInfo, hi, Builtin.lenOf, Builtin.firstCells, hnc, storeCells]
  · obtain ⟨v', w', hrun, h2, h3, _, _⟩ := run_append_own_at (P := Tryz.prog) w B 26 ty 5 i (.int .u8 0) 1 1 Tryz.underlying26 hi hz hs hby rfl (by omega) v l.length (bvs l) hown ad m c (bvs new)
      (by rw [bvs_len]; omega) (fun j u hu => by obtain ⟨_, e, _, hc⟩ := Rd.cell hr j u hu; injection e with e; subst e; exact hc)
      (fun u hu => by obtain ⟨b, _, rfl⟩ := List.mem_map.1 hu; rfl) (by unfold maxLen; omega) (by omega) hB
    exact ⟨v', w', hrun, hfin h2, h3⟩
/-- 'append(x, y...)' on bytes of the call's own -/
theorem wpList_append_bytes {ops : Array Oper} {rest : List Oper} {o : Oper} {a : Act} {Q : Exit → Act → World → Prop} {w : World} (hgd : o.guard = none) (s x : Operand)
    (ho : o.op = .call { callee := .builtin .append, args := #[s, x], argTypes := #[26, 26] }) (B : Nat) (w0 : World) (v : Value) (l : List UInt8) (hs : a.eval s = v) (hown : OwnB w B v l)
    (A : Option Addr) (m c : Nat) (new : List UInt8) (hx : a.eval x = .slice A m c) (hr : RdB w A m c new) (hsmall : l.length + m ≤ 140737488355328) (hb : Below B w0 w) (hB : B ≤ w.heap.size) (N : Nat) (hN : N = l.length + m)
    (h : ∀ A' c' w', Hid (OwnB w' B (.slice A' N c') (l ++ new)) → Below B w0 w' → B ≤ w'.heap.size → wpList Tryz.prog ops Q rest (a.put o.dst (.slice A' N c')) w') : wpList Tryz.prog ops Q (o :: rest) a w := by
  refine wpList_plain hgd fun K hK => ?_
  obtain ⟨v', w', hrun, h2, h3⟩ := run_append_bytes w B o.type v l hown A m c new hr hsmall hB
  obtain ⟨A', c', rfl, _⟩ := h2.reads
  have e : (l ++ new).length = N := by rw [List.length_append, hr.len, hN]
  rw [e] at hrun h2
  unfold Oper.wp execOp
  simp only [ho, resolve, invoke, builtin, Sem.run_bind, Sem.run_pure, Result.andThen_ok, List.map_toArray, List.map_cons, List.map_nil, hs, hx, hrun]
  exact hK _ _ (h A' c' w' h2 (hb.grown h3 hB hown.own_lt) (Nat.le_trans hB h3.size))
/-- append onto a row of the call's own, any element type: the value's shape, where it may lie, what stays -/
theorem wpList_append_gen {P : Program} {ops : Array Oper} {rest : List Oper} {o : Oper} {a : Act} {Q : Exit → Act → World → Prop} {w : World} (hgd : o.guard = none) (s x : Operand) (t : TypeId)
    (ho : o.op = .call { callee := .builtin .append, args := #[s, x], argTypes := #[t, t] })
    (e : TypeId) (i : TypeInfo) (z : Value) (size bytes : Nat) (ht : P.underlying t = some (.slice e)) (hi : P.info? e = some i) (hz : i.zero = some z)
    (hsize : i.size = size) (hby : i.bytes = bytes) (hzs : z.cells.size = size) (hsz : 0 < size) (B : Nat) (w0 : World)
    (v : Value) (n : Nat) (xs : List Value) (hs : a.eval s = v) (hown : w.ownsRow B e size v n xs)
    (ad : Addr) (m c : Nat) (news : List Value) (hx : a.eval x = .slice (some ad) m c) (hl : news.length = m * size) (hnews : ∀ j u, news[j]? = some u → w.cell? (ad.add j) = some u) (h1 : ∀ u ∈ news, u.oneCell' = true)
    (h63 : n + m ≤ maxLen) (hbytes : (n + m) * bytes ≤ 140737488355328) (hb : Below B w0 w) (hB : B ≤ w.heap.size)
    (h : ∀ A' c' w', Hid (w'.ownsRow B e size (.slice A' (n + m) c') (n + m) (xs ++ news)) → Hid (w.grownBy w' v.ownBlock) → Hid ((Value.slice A' (n + m) c').ownBlock = v.ownBlock ∨ (Value.slice A' (n + m) c').ownBlock = some w.heap.size) → Below B w0 w' → B ≤ w'.heap.size →
      wpList P ops Q rest (a.put o.dst (.slice A' (n + m) c')) w') : wpList P ops Q (o :: rest) a w := by
  refine wpList_plain hgd fun K hK => ?_
  obtain ⟨v', w', hrun, h2, h3, _, h5⟩ := run_append_own_at (P := P) w B t o.type e i z size bytes ht hi hz hsize hby hzs hsz v n xs hown ad m c news hl hnews h1 h63 hbytes hB
  obtain ⟨A', c', rfl⟩ : ∃ A' c', v' = .slice A' (n + m) c' := by
    rcases h2.2 with ⟨rfl, h0⟩ | ⟨g, cap, cur, rfl, _⟩
    · exact ⟨none, 0, by rw [h0]⟩
    · exact ⟨_, _, rfl⟩
  unfold Oper.wp execOp
  simp only [ho, resolve, invoke, builtin, Sem.run_bind, Sem.run_pure, Result.andThen_ok, List.map_toArray, List.map_cons, List.map_nil, hs, hx, hrun]
  exact hK _ _ (h A' c' w' h2 h3 h5 (hb.grown h3 hB fun k hk => (World.ownsRow.lt hown k hk).1) (Nat.le_trans hB h3.size))

theorem below_drawn {B : Nat} {a w : World} (h : Below B a w) (n : Nat) : Below B a (w.drewN n) := ⟨h.os, h.tape, h.output, h.size, h.block⟩
theorem below_drew1 {B : Nat} {a w : World} (h : Below B a w) : Below B a w.drew := below_drawn h 1
theorem OwnAt.drew1 {w : World} {g cap : Nat} {l : List UInt8} (h : OwnAt w g cap l) : OwnAt w.drew g cap l := h.drawn 1
theorem below_new (w : World) (o : Obj) : Below w.heap.size w (w.alloc o) := (Below.refl _ _).alloc (Nat.le_refl _) _
theorem ret_int {k : IntKind} {a b : Int} (h : a = b) : Ending.returned (.int k a) = .returned (.int k b) := by rw [h]
theorem ret_bool {a b : Bool} (h : a = b) : Ending.returned (.bool a) = .returned (.bool b) := by rw [h]
theorem ret_u32 {a b : BitVec 32} (h : a = b) : Ending.returned (.int .u32 (w32 a)) = .returned (.int .u32 (w32 b)) := by rw [h]
end Go.Proofs.YtkdlofgfkfhofaaGreatDoor
