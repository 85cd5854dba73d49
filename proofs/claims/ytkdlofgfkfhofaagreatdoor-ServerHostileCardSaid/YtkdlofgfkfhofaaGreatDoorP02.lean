import Derived.Test.YtkdlofgfkfhofaaGreatDoorP01
import Derived.Laws.ResultCell
import Derived.Stop.BytesEq
import Derived.Test.YtkdlofgfkfhofaaGreatDoorP00
import Derived.Deep.RegionHeld3
/-
  A frame in memory: loads, stores, builds and comparisons of whole frames, each under a closed name, so that the walk does not take them apart cell by cell.
-/
namespace Go.Proofs.YtkdlofgfkfhofaaGreatDoor
open Go.RowKit

def ldFr (v : Value) : Sem Value := Instr.loadAt 273 v
theorem ldFr_eq (v : Value) : Instr.loadAt 273 v = ldFr v := rfl
def stFr (p v : Value) : Sem Unit := Instr.storeAt 273 p v
theorem stFr_eq (p v : Value) : Instr.storeAt 273 p v = stFr p v := rfl
def bdF (parts : Array (Nat × Value)) : Sem Value := Instr.build 273 parts
theorem bdF_eq (parts : Array (Nat × Value)) : Instr.build 273 parts = bdF parts := rfl
def blank : List UInt8 := List.replicate 108 0
def zeroF : Frm := ⟨0, 0, 0, 0, blank⟩
theorem blank_len : blank.length = 108 := by simp [blank]
theorem size_frm : (Tryz.prog.info? 273).map (·.size) = some 112 := by kernel_rfl
theorem size_of {f : Frm} (hl : f.data.length = 108) : (Tryz.prog.info? 273).map (·.size) = some f.cells.size := by rw [size_frm, Frm.size hl]
theorem one_frm (f : Frm) : f.cells.all (·.oneCell') = true := by
  rw [Array.all_eq_true_iff_forall_mem]
  intro v hv
  simp only [Frm.cells, List.mem_toArray, List.mem_cons] at hv
  rcases hv with rfl | rfl | rfl | rfl | hv
  · rfl
  · rfl
  · rfl
  · rfl
  · obtain ⟨b, _, rfl⟩ := List.mem_map.1 hv
    rfl
theorem ldFr_bk {w : World} {g : Nat} {f : Frm} (h : Bk w g 273 f.cells) (hl : f.data.length = 108) : (ldFr (.pointer (some ⟨g, 0, none⟩))).run Tryz.prog w = .ok (.agg f.cells) w := by
  unfold ldFr
  simp only [Instr.loadAt, Instr.sureAddr, Sem.run_bind, Sem.run_pure, Result.andThen_ok, run_loadVar_row w g _ _ f.cells (0, 0) _ h Tryz.underlying273 rfl (size_of hl)]
theorem setRow_new (w : World) (c c' : Array Value) (t : TypeId) : (w.alloc (.cells c t)).setRow w.heap.size c' = w.alloc (.cells c' t) := by
  simp only [World.setRow, World.alloc]
  congr 1
  apply Array.ext_getElem?
  intro i
  rw [Array.getElem?_modify]
  by_cases h : w.heap.size = i
  · subst h
    simp
  · have h' : ¬ i = w.heap.size := fun e => h e.symm
    simp [h, h', Array.getElem?_push]
theorem stFr_new (w : World) (o f : Frm) (ho : o.data.length = 108) (hl : f.data.length = 108) :
    (stFr (.pointer (some ⟨w.heap.size, 0, none⟩)) (.agg f.cells)).run Tryz.prog (w.alloc (.cells o.cells 273)) = .ok () (w.alloc (.cells f.cells 273)) := by
  unfold stFr
  simp only [Instr.storeAt, Instr.sureAddr, Sem.run_bind, Sem.run_pure, Result.andThen_ok, run_storeVar_row _ _ _ _ o.cells f.cells (heap_alloc_new w _) (size_of hl) (by rw [Frm.size ho, Frm.size hl]) (one_frm f), setRow_new]
/-- a store into a block that is a frame -/
theorem stF_bk (w : World) (g : Nat) (o f : Frm) (h : Bk w g 273 o.cells) (ho : o.data.length = 108) (hl : f.data.length = 108) :
    (stFr (.pointer (some ⟨g, 0, none⟩)) (.agg f.cells)).run Tryz.prog w = .ok () (w.setRow g f.cells) := by
  unfold stFr
  simp only [Instr.storeAt, Instr.sureAddr, Sem.run_bind, Sem.run_pure, Result.andThen_ok, run_storeVar_row _ _ _ _ o.cells f.cells h (size_of hl) (by rw [Frm.size ho, Frm.size hl]) (one_frm f)]
/-- the same behind a draw -/
theorem stF_newd (w : World) (o f : Frm) (ho : o.data.length = 108) (hl : f.data.length = 108) :
    (stFr (.pointer (some ⟨w.heap.size, 0, none⟩)) (.agg f.cells)).run Tryz.prog (w.alloc (.cells o.cells 273)).drew = .ok () (w.alloc (.cells f.cells 273)).drew := by
  rw [stF_bk _ w.heap.size o f (Bk.made w _ o.cells).drawn1 ho hl]
  have e : (w.alloc (.cells o.cells 273)).drew.setRow w.heap.size f.cells = ((w.alloc (.cells o.cells 273)).setRow w.heap.size f.cells).drew := rfl
  rw [e, setRow_new]
theorem Bk.rowF {w : World} {g : Nat} {t : TypeId} {o : Array Value} (h : Bk w g t o) (c : Array Value) : Bk (w.setRow g c) g t c := by
  unfold Bk at h ⊢
  exact setRow_heap w g o c t _ h
theorem grown_rowF (w : World) (g : Nat) (c : Array Value) : w.grownBy (w.setRow g c) (some g) :=
  ⟨rfl, rfl, rfl, by simp, fun k _ hk => setRow_other w g k c (fun e => hk (by rw [e]))⟩
theorem zero_frm (w : World) : (zeroValue 273).run Tryz.prog w = .ok (.agg zeroF.cells) w := by kernel_rfl
theorem bdF_none (w : World) : (bdF #[]).run Tryz.prog w = .ok (.agg zeroF.cells) w := by kernel_rfl
theorem bdF_four (a b c d : Int) (w : World) : (bdF #[(0, .int .i64 a), (1, .int .i64 b), (2, .int .i64 c), (3, .int .i64 d)]).run Tryz.prog w = .ok (.agg (Frm.cells ⟨a, b, c, d, blank⟩)) w := by kernel_rfl
/-- a frame's bytes -/
theorem Frm.reads {w : World} {g : Nat} {f : Frm} (h : Bk w g 273 f.cells) (hl : f.data.length = 108) : RdB w (some ⟨g, 4, none⟩) 108 108 f.data := by
  refine ⟨by rw [bvs_len, hl], Nat.le_refl _, by omega, fun k u hu => ⟨_, rfl, h.lt, ?_⟩⟩
  rw [Addr.add_none, Bk.cell h, ← hu]
  simp only [Frm.cells, List.getElem?_toArray]
  rw [show 4 + k = k + 4 by omega]
  rfl
def Frm.same (f g : Frm) : Bool := f.kind == g.kind && (f.slot == g.slot && (f.stripe == g.stripe && (f.gen == g.gen && f.data == g.data)))
theorem same_iffF (f g : Frm) : f.same g = true ↔ f = g := by
  obtain ⟨a, b, c, d, e⟩ := f
  obtain ⟨a', b', c', d', e'⟩ := g
  simp [Frm.same]
theorem part_intF (cs : Array Value) (i : Nat) (z : Int) (w : World) (h : cs[i]? = some (.int .i64 z)) : (part 3 cs i).run Tryz.prog w = .ok (.int .i64 z) w := by
  simp [part, isAgg, run_underlying Tryz.underlying3, h]
theorem part_data (f : Frm) (hl : f.data.length = 108) (w : World) : (part 271 f.cells 4).run Tryz.prog w = .ok (.agg (bvs f.data).toArray) w := by
  have hz : (sizeOf 271).run Tryz.prog w = .ok 108 w := by kernel_rfl
  have hb : (bvs f.data).length = 108 := by rw [bvs_len, hl]
  have e : f.cells.extract 4 (4 + 108) = (bvs f.data).toArray := by
    unfold Frm.cells
    simp [List.take_of_length_le (Nat.le_of_eq hb)]
  have ha : (isAgg 271).run Tryz.prog w = .ok true w := by simp [isAgg, run_underlying Tryz.underlying271]
  simp only [part, Sem.run_bind, ha, hz, Result.andThen_ok, if_true, Sem.run_pure, e]
theorem bvs_cell (l : List UInt8) : bvs l = l.map Extern.Stop.cell := rfl
theorem eq_data (d : Nat) (l r : List UInt8) (hl : l.length = 108) (hr : r.length = 108) (w : World) : (Op.equalIn (d + 2) 271 (.agg (bvs l).toArray) (.agg (bvs r).toArray)).run Tryz.prog w = .ok (l == r) w := by
  have hsz : ∀ w, (sizeOf 5).run Tryz.prog w = .ok 1 w := fun _ => by kernel_rfl
  rw [bvs_cell, bvs_cell]
  exact run_equalIn_bytes (P := Tryz.prog) w d 271 5 108 Tryz.underlying271 Tryz.underlying5 hsz l r hl hr
theorem eq_num (d : Nat) (a b : Int) (w : World) : (Op.equalIn (d + 2) 3 (.int .i64 a) (.int .i64 b)).run Tryz.prog w = .ok (a == b) w := run_equalIn_int w (d + 1) 3 .i64 .i64 a b Tryz.underlying3
theorem fields_frm : Tryz.prog.underlying 273 = some (.struct (Tryz.prog.fieldsOf 273)) := by
  unfold Program.fieldsOf
  rw [Tryz.underlying273]
theorem eqFields_consF {P : Program} {w : World} {d : Nat} {xs ys : Array Value} {f : Field} {fs : List Field} (hn : f.name ≠ "_") {a b : Value} {r : Bool} (ha : (part f.type xs f.offset).run P w = .ok a w) (hb : (part f.type ys f.offset).run P w = .ok b w)
    (hr : (Op.equalIn d f.type a b).run P w = .ok r w) {q : Bool} (hq : (Op.eqFields d xs ys fs).run P w = .ok q w) : (Op.eqFields d xs ys (f :: fs)).run P w = .ok (r && q) w := by
  unfold Op.eqFields
  rw [if_pos hn]
  simp only [Sem.run_bind, ha, hb, hr, Result.andThen_ok, Sem.run_ite, Sem.run_pure]
  cases r
  · simp
  · simp [hq]
theorem eqFields_nilF {P : Program} {w : World} {d : Nat} {xs ys : Array Value} : (Op.eqFields d xs ys []).run P w = .ok true w := rfl
theorem eq_frm_d (d : Nat) (f g : Frm) (hf : f.data.length = 108) (hg : g.data.length = 108) (w : World) : (Op.equalIn (d + 3) 273 (.agg f.cells) (.agg g.cells)).run Tryz.prog w = .ok (f.same g) w := by
  rw [run_equalIn_struct w (d + 2) 273 f.cells g.cells fields_frm Tryz.stoodInHeld273]
  unfold Program.fieldsOf
  rw [Tryz.underlying273]
  have h5 := eqFields_consF (fs := []) (f := ⟨"Data", 271, 4, false, "", "", 32⟩) (by decide) (part_data f hf w) (part_data g hg w) (eq_data d f.data g.data hf hg w) eqFields_nilF
  have h4 := eqFields_consF (f := ⟨"Gen", 3, 3, false, "", "", 24⟩) (by decide) (part_intF f.cells 3 _ w f.c3) (part_intF g.cells 3 _ w g.c3) (eq_num d _ _ w) h5
  have h3 := eqFields_consF (f := ⟨"Stripe", 3, 2, false, "", "", 16⟩) (by decide) (part_intF f.cells 2 _ w f.c2) (part_intF g.cells 2 _ w g.c2) (eq_num d _ _ w) h4
  have h2 := eqFields_consF (f := ⟨"Slot", 3, 1, false, "", "", 8⟩) (by decide) (part_intF f.cells 1 _ w f.c1) (part_intF g.cells 1 _ w g.c1) (eq_num d _ _ w) h3
  have h1 := eqFields_consF (f := ⟨"Kind", 3, 0, false, "", "", 0⟩) (by decide) (part_intF f.cells 0 _ w f.c0) (part_intF g.cells 0 _ w g.c0) (eq_num d _ _ w) h2
  refine Eq.trans h1 ?_
  rw [Bool.and_true]
  rfl
theorem eq_frm (f g : Frm) (hf : f.data.length = 108) (hg : g.data.length = 108) (w : World) : (Op.equalIn 10000 273 (.agg f.cells) (.agg g.cells)).run Tryz.prog w = .ok (f.same g) w := eq_frm_d 9997 f g hf hg w
end Go.Proofs.YtkdlofgfkfhofaaGreatDoor

/-
  Plain arithmetic of the checksum: a bit's step, a byte's step, a text's fold; they are linear and one to one. No program in sight.
-/
namespace Go.Proofs.YtkdlofgfkfhofaaGreatDoor.CrcMath

def poly : BitVec 32 := 0x82f63b78#32
/-- one bit -/
def bit (c : BitVec 32) : BitVec 32 := if c.getLsbD 0 then (c >>> 1) ^^^ poly else c >>> 1
def bitn : Nat → BitVec 32 → BitVec 32
  | 0, c => c
  | k + 1, c => bit (bitn k c)
/-- a byte's eight bits -/
def oct (c : BitVec 32) : BitVec 32 := bitn 8 c
/-- one byte into the state -/
def one (c : BitVec 32) (x : BitVec 8) : BitVec 32 := oct (c ^^^ x.setWidth 32)
def fold (c : BitVec 32) (l : List UInt8) : BitVec 32 := l.foldl (fun c x => one c x.toBitVec) c
/-- from a sum: that of more bytes behind -/
def on (c : BitVec 32) (l : List UInt8) : BitVec 32 := ~~~ (fold (~~~ c) l)

theorem bit_xor (a b : BitVec 32) : bit (a ^^^ b) = bit a ^^^ bit b := by
  unfold bit
  rw [BitVec.getLsbD_xor, BitVec.ushiftRight_xor_distrib]
  cases ha : a.getLsbD 0 <;> cases hb : b.getLsbD 0 <;> simp
  · rw [BitVec.xor_assoc]
  · rw [BitVec.xor_assoc, BitVec.xor_assoc, BitVec.xor_comm poly]
  · rw [BitVec.xor_assoc, ← BitVec.xor_assoc poly, BitVec.xor_comm poly, BitVec.xor_assoc (b >>> 1), BitVec.xor_self, BitVec.xor_zero]
theorem bitn_xor (k : Nat) (a b : BitVec 32) : bitn k (a ^^^ b) = bitn k a ^^^ bitn k b := by
  induction k with
  | zero => rfl
  | succ k ih => simp only [bitn, ih, bit_xor]
theorem oct_xor (a b : BitVec 32) : oct (a ^^^ b) = oct a ^^^ oct b := bitn_xor 8 a b
theorem shr_shr (c : BitVec 32) (m n : Nat) : (c >>> m) >>> n = c >>> (m + n) := (BitVec.shiftRight_add c m n).symm
/-- steps of what has no low bits only shift it -/
theorem bitn_high (k : Nat) (c : BitVec 32) (h : ∀ i, i < k → c.getLsbD i = false) : bitn k c = c >>> k := by
  induction k with
  | zero => simp [bitn]
  | succ k ih =>
    have := ih fun i hi => h i (by omega)
    simp only [bitn, this]
    unfold bit
    have h0 : (c >>> k).getLsbD 0 = false := by rw [BitVec.getLsbD_ushiftRight]; exact h k (by omega)
    rw [h0]
    simp only [Bool.false_eq_true, if_false]
    rw [shr_shr]
theorem oct_split (c : BitVec 32) : oct c = oct ((c.setWidth 8).setWidth 32) ^^^ (c >>> 8) := by
  have e : c = (c.setWidth 8).setWidth 32 ^^^ ((c >>> 8) <<< 8) := by
    apply BitVec.eq_of_getLsbD_eq
    intro i hi
    simp only [BitVec.getLsbD_xor, BitVec.getLsbD_setWidth, BitVec.getLsbD_shiftLeft, BitVec.getLsbD_ushiftRight]
    by_cases h : i < 8
    · simp [h, hi]
    · have : 8 + (i - 8) = i := by omega
      simp [h, hi, this]
  have hh : oct ((c >>> 8) <<< 8) = c >>> 8 := by
    unfold oct
    rw [bitn_high 8 _ (by intro i hi; simp [BitVec.getLsbD_shiftLeft, hi])]
    apply BitVec.eq_of_getLsbD_eq
    intro i hi
    simp only [BitVec.getLsbD_ushiftRight, BitVec.getLsbD_shiftLeft]
    by_cases h : 8 + i < 32
    · simp [h]
    · have : c.getLsbD (8 + i) = false := BitVec.getLsbD_of_ge _ _ (by omega)
      simp [this]
  conv => lhs; rw [e]
  rw [oct_xor, hh]
/-- by the table: the lowest byte picks, the rest moves down -/
theorem one_table (c : BitVec 32) (x : BitVec 8) : one c x = oct ((c.setWidth 8 ^^^ x).setWidth 32) ^^^ (c >>> 8) := by
  unfold one
  rw [oct_split]
  congr 1
  · congr 1
    apply BitVec.eq_of_getLsbD_eq
    intro i hi
    simp only [BitVec.getLsbD_xor, BitVec.getLsbD_setWidth]
    by_cases h : i < 8
    · simp [h, hi]
    · have : x.getLsbD i = false := BitVec.getLsbD_of_ge _ _ (by omega)
      simp [h, this]
  · apply BitVec.eq_of_getLsbD_eq
    intro i hi
    have : x.getLsbD (8 + i) = false := BitVec.getLsbD_of_ge _ _ (by omega)
    simp only [BitVec.getLsbD_xor, BitVec.getLsbD_setWidth, BitVec.getLsbD_ushiftRight, this]
    simp

theorem fold_append (c : BitVec 32) (l m : List UInt8) : fold c (l ++ m) = fold (fold c l) m := by simp [fold, List.foldl_append]
theorem fold_snoc (c : BitVec 32) (l : List UInt8) (x : UInt8) : fold c (l ++ [x]) = one (fold c l) x.toBitVec := by rw [fold_append]; rfl
theorem not_not (c : BitVec 32) : ~~~ (~~~ c) = c := BitVec.not_not
/-- bytes xored place by place -/
def mix (l m : List UInt8) : List UInt8 := List.zipWith (· ^^^ ·) l m
/-- four bytes, the lowest first -/
def le4 (x : BitVec 32) : List UInt8 := [⟨x.setWidth 8⟩, ⟨(x >>> 8).setWidth 8⟩, ⟨(x >>> 16).setWidth 8⟩, ⟨(x >>> 24).setWidth 8⟩]
/-- a text of which four bytes beside each other turn by x -/
def burst (l : List UInt8) (k : Nat) (x : BitVec 32) : List UInt8 := l.take k ++ mix ((l.drop k).take 4) (le4 x) ++ l.drop (k + 4)
end Go.Proofs.YtkdlofgfkfhofaaGreatDoor.CrcMath

/-
  The walks of package crc: the table is that of every byte's eight steps; On and Sum compute the fold.
-/
namespace Go.Proofs.YtkdlofgfkfhofaaGreatDoor
open Go.RowKit CrcMath

/-- the table at a byte; its cells -/
def tbl (y : UInt8) : BitVec 32 := oct (y.toBitVec.setWidth 32)
def tab : Array Value := (Array.range 256).map fun i => .int .u32 (w32 (tbl (UInt8.ofNat i)))
def IsTable (w : World) (g : Nat) : Prop := Bk w g 395 tab
theorem IsTable.cell {w : World} {g : Nat} (h : IsTable w g) (y : UInt8) : w.cell? ⟨g, (w8 y).toNat, none⟩ = some (.int .u32 (w32 (tbl y))) := by
  rw [Bk.cell h]
  have := y.toNat_lt
  have e : (w8 y).toNat = y.toNat := by unfold w8; omega
  rw [e]
  unfold tab
  rw [Array.getElem?_map, Array.getElem?_range, if_pos (by omega)]
  simp
theorem one_tbl (c : BitVec 32) (x : UInt8) : one c x.toBitVec = tbl (lowB c ^^^ x) ^^^ (c >>> 8) := one_table c x.toBitVec

theorem xor_poly (c : BitVec 32) : bits .xor .u32 (w32 c) 2197175160 = w32 (c ^^^ poly) := xor_u32 c poly
attribute [local go_sem] xor_u32 xor_u8 not_u32 signed_u32 low_u32 xor_poly shr8_u32 shr1_u32 w8_nn w8_256

set_option maxRecDepth 100000 in
set_option maxHeartbeats 400000 in
theorem on_any (g : Nat) (c0 : BitVec 32) (A : Option Addr) (n c : Nat) (l : List UInt8) (w : World) (ht : IsTable w g) (hr : RdB w A n c l) :
    Calls Tryz.prog 241 #[.pointer (some ⟨g, 0, none⟩), .int .u32 (w32 c0), .slice A n c] w fun e w' =>
      e = .returned (.int .u32 (w32 (on c0 l))) ∧ w = w' := by
  have hn : n ≤ 9223372036854775807 := Nat.le_trans hr.cap hr.big
  have hl := Lib.hid hr.len
  go_enter Tryz.func241, Tryz.ntmps241
  go_wp2
  go_loop [1, 13] (fun s i => ∃ k : Nat, k ≤ n ∧ i = .int .i64 k ∧ s = .int .u32 (w32 (fold (~~~ c0) (l.take k)))) (fun _ i => n - (intOf i).toNat)
  case atStart =>
    exact ⟨0, Nat.zero_le _, rfl, rfl⟩
  case round =>
    obtain ⟨k, hk, rfl, rfl⟩ := hrel
    by_cases hlt : k < n
    · obtain ⟨ad, x, rfl, hx, _, hc⟩ := hr.get hlt
      clear hr
      have hi : (k : Int) < n := by omega
      have hT := ht.cell (lowB (fold (~~~ c0) (l.take k)) ^^^ x)
      go_wp2
      go_round
      case rel =>
        refine ⟨k + 1, by omega, by go_num, ?_⟩
        rw [hx.out, fold_snoc, one_tbl]
      case measure => simp [intOf]; omega
    · have hkn : k = n := by omega
      subst hkn
      go_wp2
      go_ret
      refine ⟨ret_u32 ?_, rfl⟩
      rw [← hl.out, List.take_length]
      rfl

set_option maxRecDepth 100000 in
set_option maxHeartbeats 400000 in
theorem sum_any (g : Nat) (A : Option Addr) (n c : Nat) (l : List UInt8) (w : World) (ht : IsTable w g) (hr : RdB w A n c l) :
    Calls Tryz.prog 194 #[.pointer (some ⟨g, 0, none⟩), .slice A n c] w fun e w' =>
      e = .returned (.int .u32 (w32 (on 0#32 l))) ∧ w = w' := by
  have e0 : (0 : Int) = w32 0#32 := rfl
  have H := Lib.hid (on_any g 0#32 A n c l w ht hr)
  rw [← e0] at H
  clear hr ht e0
  go_enter Tryz.func194, Tryz.ntmps194
  go_wp2_with fail
  refine H.out.mono ?_
  rintro e w' ⟨rfl, rfl⟩
  go_wp2_with fail
  go_ret
  exact ⟨rfl, rfl⟩

/-- the table as it is filled: the first k are there -/
def tabAt (k : Nat) : Array Value := (Array.range 256).map fun i => .int .u32 (if i < k then w32 (tbl (UInt8.ofNat i)) else 0)
theorem tabAt_zero : tabAt 0 = Array.replicate 256 (.int .u32 0) := by
  unfold tabAt
  apply Array.ext
  · simp
  · intro i h1 h2; simp
theorem tabAt_full : tabAt 256 = tab := by
  unfold tabAt tab
  apply Array.ext
  · simp
  · intro i h1 h2
    simp at h1
    simp [h1]
theorem tabAt_put (k : Nat) : (tabAt k).setIfInBounds k (.int .u32 (w32 (tbl (UInt8.ofNat k)))) = tabAt (k + 1) := by
  unfold tabAt
  apply Array.ext
  · simp
  · intro i h1 h2
    have hi : i < 256 := by simpa using h2
    rw [Array.getElem_setIfInBounds (by simpa using hi)]
    by_cases e : k = i
    · subst e; simp
    · by_cases h : i < k
      · simp [e, h, Nat.lt_succ_of_lt h]
      · simp [e, h, show ¬ i < k + 1 by omega]
def zeros : Array Value := Array.replicate 256 (.int .u32 0)
theorem zero_table (w : World) : (zeroValue 395).run Tryz.prog w = .ok (.agg zeros) w := by kernel_rfl

set_option maxRecDepth 100000 in
set_option maxHeartbeats 400000 in
theorem make_any (w : World) : Calls Tryz.prog 193 #[] w fun e w' => e = .returned (.pointer (some ⟨w.heap.size, 0, none⟩)) ∧ IsTable w' w.heap.size ∧ Below w.heap.size w w' := by
  have hz := zero_table
  go_enter Tryz.func193, Tryz.ntmps193
  go_wp2
  go_loopw [7] (fun i wr => ∃ k : Nat, k ≤ 256 ∧ i = .int .i64 k ∧ Bk wr w.heap.size 395 (tabAt k) ∧ Below w.heap.size w wr) (fun i _ => 256 - (intOf i).toNat)
  case atStart =>
    refine ⟨0, Nat.zero_le _, rfl, ?_, (Below.refl _ _).alloc (Nat.le_refl _) _⟩
    rw [tabAt_zero]
    exact Bk.made _ _ _
  case round =>
    obtain ⟨k, hk, rfl, hbk, hbel⟩ := hrel
    obtain ⟨wo, rfl⟩ : ∃ wo : World, wo = wr := ⟨_, rfl⟩
    by_cases hlt : k < 256
    · have hi : (k : Int) < 256 := by omega
      have hc := hbk.cell k
      have hold : ∃ v, (tabAt k)[k]? = some v := ⟨_, Array.getElem?_eq_getElem (by simp [tabAt]; exact hlt)⟩
      obtain ⟨v, hv⟩ := hold
      rw [hv] at hc
      clear hv
      have hf := hbk.thaw k
      have hbk := Lib.hid hbk
      go_wp2
      go_loop [3, 12] (fun s i => ∃ j : Nat, j ≤ 8 ∧ i = .int .i64 j ∧ s = .int .u32 (w32 (bitn j (BitVec.ofNat 32 k)))) (fun _ i => 8 - (intOf i).toNat)
      case atStart =>
        refine ⟨0, Nat.zero_le _, rfl, ?_⟩
        have e : w32 (bitn 0 (BitVec.ofNat 32 k)) = (k : Int) := by
          show ((BitVec.ofNat 32 k).toNat : Int) = k
          rw [BitVec.toNat_ofNat]; omega
        rw [e]
      case round =>
        obtain ⟨j, hj, rfl, rfl⟩ := hrel
        by_cases hlj : j < 8
        · have hji : (j : Int) < 8 := by omega
          by_cases hbit : (bitn j (BitVec.ofNat 32 k)).getLsbD 0 = true
          · have hand : bits .and .u32 (w32 (bitn j (BitVec.ofNat 32 k))) 1 = 1 := by rw [and1_u32, if_pos hbit]
            have hbit := Lib.hid hbit
            go_wp2
            go_round
            case rel =>
              refine ⟨j + 1, by omega, by go_num, ?_⟩
              have e : bitn (j + 1) (BitVec.ofNat 32 k) = bitn j (BitVec.ofNat 32 k) >>> 1 ^^^ poly := by
                show bit _ = _
                unfold bit
                rw [if_pos hbit.out]
              rw [e]
            case measure => simp [intOf]; omega
          · have hand : bits .and .u32 (w32 (bitn j (BitVec.ofNat 32 k))) 1 = 0 := by rw [and1_u32, if_neg hbit]
            have hbit := Lib.hid hbit
            go_wp2
            go_round
            case rel =>
              refine ⟨j + 1, by omega, by go_num, ?_⟩
              have e : bitn (j + 1) (BitVec.ofNat 32 k) = bitn j (BitVec.ofNat 32 k) >>> 1 := by
                show bit _ = _
                unfold bit
                rw [if_neg hbit.out]
              rw [e]
            case measure => simp [intOf]; omega
        · have hj8 : j = 8 := by omega
          subst hj8
          go_wp2
          go_roundw
          case rel =>
            refine ⟨k + 1, by omega, by go_num, ?_, ?_⟩
            · have h := hbk.out.put k (.int .u32 (w32 (bitn 8 (BitVec.ofNat 32 k))))
              have e : bitn 8 (BitVec.ofNat 32 k) = tbl (UInt8.ofNat k) := by
                show oct _ = oct _
                congr 1
                apply BitVec.eq_of_toNat_eq
                simp
                omega
              rw [e, tabAt_put] at h
              rw [e]
              exact h
            · exact hbel.setCell (Nat.le_refl _) _
          case measure => simp [intOf]; omega
    · have hk : k = 256 := by omega
      subst hk
      go_wp2
      go_ret
      refine ⟨rfl, ?_, hbel⟩
      rw [tabAt_full] at hbk
      exact hbk
end Go.Proofs.YtkdlofgfkfhofaaGreatDoor

/-
  The table stays; empty bytes.
-/
namespace Go.Proofs.YtkdlofgfkfhofaaGreatDoor
open Go.RowKit
open CrcMath

theorem IsTable.ext {w w' : World} {g : Nat} (h : IsTable w g) (hb : Below w.heap.size w w') : IsTable w' g := Bk.ext h hb
theorem RdB.nil (w : World) : RdB w none 0 0 [] := Rd.nil w _
theorem RdB.drew1 {w : World} {A : Option Addr} {n c : Nat} {l : List UInt8} (h : RdB w A n c l) : RdB w.drew A n c l := h.drawn 1
theorem IsTable.drew1 {w : World} {g : Nat} (h : IsTable w g) : IsTable w.drew g := h
end Go.Proofs.YtkdlofgfkfhofaaGreatDoor

/-
  The walk of frame.Put.
-/
namespace Go.Proofs.YtkdlofgfkfhofaaGreatDoor
open Go.RowKit CrcMath
attribute [local go_sem] w8_nn w8_256 wrap_i64_w8 wrap64_w8 pastA_zero pastA_some Frm.c0 Frm.c1 Frm.c2 Frm.c3
attribute [local go_sem ↓] sliced_past ldFr_eq stFr_eq bdF_eq

/-- a frame's first 124 bytes; all 128 -/
def Frm.head (f : Frm) : List UInt8 := 83 :: 84 :: UInt8.ofNat f.kind.toNat :: UInt8.ofNat f.slot.toNat :: (leB 4 f.stripe.toNat ++ (leB 8 f.gen.toNat ++ f.data))
def Frm.put (f : Frm) : List UInt8 := f.head ++ leB 4 (on 0#32 f.head).toNat

theorem put_law (f : Frm) (hl : f.data.length = 108) (L2 L4 L5 : List UInt8) (h2 : L2 = (((((List.replicate 128 0).set 0 83).set 1 84).set 2 (UInt8.ofNat f.kind.toNat)).set 3 (UInt8.ofNat f.slot.toNat)))
    (h4 : L4 = laid (laid L2 4 (leB 4 f.stripe.toNat)) 8 (leB 8 f.gen.toNat)) (h5 : L5 = laid L4 16 f.data) : laid L5 124 (leB 4 (w32 (on 0#32 (L5.take 124))).toNat) = f.put := by
  have e2 : L2 = [83, 84, UInt8.ofNat f.kind.toNat, UInt8.ofNat f.slot.toNat] ++ (List.replicate 4 0 ++ (List.replicate 8 0 ++ (List.replicate 108 0 ++ List.replicate 4 0))) := by rw [h2]; rfl
  have e3 : laid L2 4 (leB 4 f.stripe.toNat) = [83, 84, UInt8.ofNat f.kind.toNat, UInt8.ofNat f.slot.toNat] ++ (leB 4 f.stripe.toNat ++ (List.replicate 8 0 ++ (List.replicate 108 0 ++ List.replicate 4 0))) := by
    rw [e2, laid_mid _ _ _ _ 4 rfl (by rw [leB_len, List.length_replicate])]
  have e4 : L4 = ([83, 84, UInt8.ofNat f.kind.toNat, UInt8.ofNat f.slot.toNat] ++ leB 4 f.stripe.toNat) ++ (leB 8 f.gen.toNat ++ (List.replicate 108 0 ++ List.replicate 4 0)) := by
    rw [h4, e3, ← List.append_assoc, laid_mid _ _ _ _ 8 (by rw [List.length_append, leB_len]; rfl) (by rw [leB_len, List.length_replicate])]
  have e5 : L5 = f.head ++ (List.replicate 4 0 ++ []) := by
    rw [h5, e4, ← List.append_assoc, laid_mid _ _ _ _ 16 (by rw [List.length_append, List.length_append, leB_len, leB_len]; rfl) (by rw [hl, List.length_replicate])]
    simp [Frm.head]
  have hh : f.head.length = 124 := by simp [Frm.head, leB_len, hl]
  have e6 : L5.take 124 = f.head := by rw [e5, ← hh, List.take_left]
  have e7 : (w32 (on 0#32 f.head)).toNat = (on 0#32 f.head).toNat := by unfold w32; omega
  rw [e6, e5, e7, laid_mid _ _ _ _ 124 hh (by rw [leB_len, List.length_replicate]), List.append_nil]
  rfl
theorem w8_ofInt (z : Int) (h0 : 0 ≤ z) (h1 : z ≤ 255) : w8 (UInt8.ofNat z.toNat) = z := by
  unfold w8
  rw [UInt8.toNat_ofNat']
  omega
set_option maxRecDepth 100000 in
set_option maxHeartbeats 400000 in
theorem put_no (f : Frm) (hl : f.data.length = 108) (hr : f.right = false) (w : World) :
    Calls Tryz.prog 149 #[.agg f.cells] w fun e w' => e = .returned (.slice none 0 0) ∧ Below w.heap.size w w' := by
  have hld := ldFr_bk (Bk.made w 273 f.cells) hl
  go_enter Tryz.func149, Tryz.ntmps149
  go_wp2_with (go_at_call 191; (with_reducible refine (right_any f _).mono ?_); rintro e w1 ⟨rfl, hb1⟩)
  go_wp2_with fail
  go_ret
  exact ⟨rfl, (below_new _ _).trans (below_le (by simp) hb1)⟩
set_option maxRecDepth 100000 in
set_option maxHeartbeats 1000000 in
theorem put_yes (f : Frm) (hl : f.data.length = 108) (hr : f.right = true) (w : World) :
    Calls Tryz.prog 149 #[.agg f.cells] w fun e w' => ∃ g, w.heap.size ≤ g ∧ e = .returned (.slice (some ⟨g, 0, none⟩) 128 128) ∧ Bb w' g 5 f.put ∧ Below w.heap.size w w' := by
  have hld := ldFr_bk (Bk.made w 273 f.cells) hl
  obtain ⟨⟨k0, k1⟩, ⟨s0, s1⟩, ⟨t0, t1⟩, ⟨g0, g1⟩⟩ := (right_iff f).1 hr
  have hmk := mk_bytes 128 128 rfl (by omega)
  go_enter Tryz.func149, Tryz.ntmps149
  go_wp2_with fail
  refine (right_any f _).mono ?_
  rintro e w1 ⟨rfl, hb1⟩
  have hF1 : Bk w1 w.heap.size 273 f.cells := (Bk.made w _ f.cells).ext hb1
  have c0 := (hF1.cell 0).trans f.c0
  have c1 := (hF1.cell 1).trans f.c1
  have hlt := hF1.lt
  have hnew := Bb.made w1 128
  have z := fun i (h : i < 128) => (hnew.get (i := i) (by simpa using h))
  obtain ⟨x0, _, d0⟩ := z 0 (by omega)
  obtain ⟨x1, _, d1⟩ := z 1 (by omega)
  obtain ⟨x2, _, d2⟩ := z 2 (by omega)
  obtain ⟨x3, _, d3⟩ := z 3 (by omega)
  have e0 := hnew.thaw 0
  have e1 := hnew.thaw 1
  have e2 := hnew.thaw 2
  have e3 := hnew.thaw 3
  have HN := Lib.hid hnew
  have HF1 := Lib.hid hF1
  clear z hnew hF1
  have hk8 : w8 (UInt8.ofNat f.kind.toNat) = f.kind := w8_ofInt f.kind (by omega) (by omega)
  have hs8 : w8 (UInt8.ofNat f.slot.toNat) = f.slot := w8_ofInt f.slot (by omega) (by omega)
  have Hp := Lib.hid ((((HN.out.put 0 83).put 1 84).put 2 (UInt8.ofNat f.kind.toNat)).put 3 (UInt8.ofNat f.slot.toNat))
  rw [hk8, hs8] at Hp
  clear hk8 hs8
  have FS : Hid (∀ w', Below w1.heap.size w1 w' → (Below w1.heap.size w1 w' ∧ w'.cell? ⟨w.heap.size, 2, none⟩ = some (.int .i64 f.stripe) ∧ w'.cell? ⟨w.heap.size, 3, none⟩ = some (.int .i64 f.gen))) := fun w' hb =>
    ⟨hb, ((HF1.out.ext hb).cell 2).trans f.c2, ((HF1.out.ext hb).cell 3).trans f.c3⟩
  go_wp2_with fail
  refine wp_cut (fun w' => Bb w' w1.heap.size 5 ((((List.replicate 128 0).set 0 83).set 1 84).set 2 (UInt8.ofNat f.kind.toNat) |>.set 3 (UInt8.ofNat f.slot.toNat)) ∧ Below w1.heap.size w1 w') ⟨Hp.out, ?_⟩ ?_
  · exact ((((below_new _ _).setCell (Nat.le_refl _) _).setCell (Nat.le_refl _) _).setCell (Nat.le_refl _) _).setCell (Nat.le_refl _) _
  clear c0 c1 d0 d1 d2 d3 e0 e1 e2 e3 HN Hp
  rintro w2 ⟨hb2, hB2⟩
  obtain ⟨L2, hL2⟩ : ∃ L2, ((((List.replicate 128 0).set 0 83).set 1 84).set 2 (UInt8.ofNat f.kind.toNat) |>.set 3 (UInt8.ofNat f.slot.toNat)) = L2 := ⟨_, rfl⟩
  rw [hL2] at hb2
  have hl2 : 128 ≤ L2.length := by rw [← hL2]; simp
  have HL2 := Lib.hid hL2
  have Hb2 := Lib.hid hb2
  clear hL2 hb2
  have wr1 := wrap_u64_in f.stripe t0 (by omega)
  have wr2 := wrap_u64_in f.gen g0 (by omega)
  go_region_held3 (fun w' => Below w1.heap.size w1 w' ∧ w'.cell? ⟨w.heap.size, 2, none⟩ = some (.int .i64 f.stripe) ∧ w'.cell? ⟨w.heap.size, 3, none⟩ = some (.int .i64 f.gen)) (first | exact FS.out _ hB3 | exact FS.out _ (below_drew1 hB2)) ((go_at_call 192; (with_reducible refine (low_intF w1.heap.size 4 4 124 5 L2 f.stripe _ t0 ?_ ?_ ?_ w1 w1.heap.size ?_ ?_ ?_).mono ?_); exact Hb2.out.drawn1; omega; omega; exact below_drew1 hB2; exact Nat.le_refl _; exact (below_drew1 hB2).size; rintro e w3 ⟨rfl, hb3, hB3⟩))
  have Hb3 := Lib.hid hb3
  clear hb3 hB2
  go_wp2_with fail
  go_region_held3 (fun w' => Below w1.heap.size w1 w' ∧ w'.cell? ⟨w.heap.size, 2, none⟩ = some (.int .i64 f.stripe) ∧ w'.cell? ⟨w.heap.size, 3, none⟩ = some (.int .i64 f.gen)) (first | exact FS.out _ hB4 | exact FS.out _ (below_drew1 hB3)) ((go_at_call 192; (with_reducible refine (low_intF w1.heap.size 8 8 120 5 _ f.gen _ g0 Hb3.out.drawn1 ?_ ?_ w1 w1.heap.size ?_ ?_ ?_).mono ?_); rw [laid_len _ _ _ (by rw [leB_len]; omega)]; omega; omega; exact below_drew1 hB3; exact Nat.le_refl _; exact (below_drew1 hB3).size; rintro e w4 ⟨rfl, hb4, hB4⟩))
  have Hb4 := Lib.hid hb4
  clear hb4 hB3
  clear wr1 wr2
  have hl4 : (laid (laid L2 4 (leB 4 f.stripe.toNat)) 8 (leB 8 f.gen.toNat)).length = L2.length := by
    have h3 : (laid L2 4 (leB 4 f.stripe.toNat)).length = L2.length := laid_len _ _ _ (by rw [leB_len]; omega)
    rw [laid_len _ _ _ (by rw [leB_len, h3]; omega), h3]
  obtain ⟨L4, hL4⟩ : ∃ L4, laid (laid L2 4 (leB 4 f.stripe.toNat)) 8 (leB 8 f.gen.toNat) = L4 := ⟨_, rfl⟩
  rw [hL4] at hl4
  rw [hL4] at Hb4
  have HL4 := Lib.hid hL4
  have Hl4 := Lib.hid hl4
  clear hL4 hl4
  have HD := Lib.hid (Frm.reads (HF1.out.ext (below_drew1 hB4)) hl)
  go_wp2_with fail
  go_region_held3 (fun w' => Below w1.heap.size w1 w') (first | exact hB5 | exact below_drew1 hB4) ((refine step_copy_bytes (by rfl) (.tmp 35) (.tmp 37) 26 26 (by rfl) 5 Tryz.underlying26 size_byte (some ⟨w1.heap.size, 16, none⟩) 108 112 108 108 (some ⟨w.heap.size, 4, none⟩) (by rfl) (by rfl) w1.heap.size 16 (bvs L4) 5 (Bb.drawn1 Hb4.out) f.data HD.out (by rfl) (by rw [bvs_len, Hl4.out]; omega) w1.heap.size w1 (below_drew1 hB4) (Nat.le_refl _) ?_; intro w5 hb5 hB5))
  rw [List.take_of_length_le (by omega), splice_bytes] at hb5
  obtain ⟨L5, hL5⟩ : ∃ L5, laid L4 16 f.data = L5 := ⟨_, rfl⟩
  rw [hL5] at hb5
  have hl5 := Lib.hid (show L5.length = L2.length by rw [← hL5, laid_len _ _ _ (by rw [Hl4.out, hl]; omega), Hl4.out])
  have HL5 := Lib.hid hL5
  have wr3 : ∀ c, IntKind.u64.wrap (w32 c) = w32 c := fun c => wrap_u64_in _ (w32_lt c).1 (by have := (w32_lt c).2; omega)
  clear hL5 hB4 HD
  go_wp2_with fail
  go_region_held3 (fun w' => Below w1.heap.size w1 w') (first | exact hB7 | exact hB6 | exact below_drew1 hB5) (first | (go_at_call 193; (with_reducible refine (make_any _).mono ?_); rintro e w6 ⟨rfl, ht6, hb6⟩; have hB6 : Below w1.heap.size w1 w6 := (below_drew1 hB5).trans (below_le (below_drew1 hB5).size hb6); have Hb6 := Lib.hid ((Bb.drawn1 hb5.out).ext hb6); have Ht6 := Lib.hid ht6; clear ht6 hb6) | (go_at_call 194; (with_reducible refine (sum_any _ _ 124 128 (L5.take 124) _ ?_ ?_).mono ?_); exact Ht6.out; exact (show Bb w6 _ _ L5 from Hb6.out).reads 0 124 128 (by rw [hl5.out]; omega) (by omega) (by omega); rintro e w6' ⟨rfl, rfl⟩) | (go_at_call 192; (with_reducible refine (low_intF w1.heap.size 124 4 4 5 L5 _ _ (w32_lt _).1 ?_ ?_ ?_ w1 w1.heap.size ?_ ?_ ?_).mono ?_); exact Hb6.out; rw [hl5.out]; omega; omega; exact hB6; exact Nat.le_refl _; exact hB6.size; rintro e w7 ⟨rfl, hb7, hB7⟩))
  go_wp2
  go_ret
  refine ⟨w1.heap.size, Nat.le_of_lt hlt, rfl, ?_, (below_new _ _).trans (below_le (by simp) (hb1.trans (below_le hb1.size hB7)))⟩
  rw [put_law f hl L2 L4 L5 HL2.out.symm HL4.out.symm HL5.out.symm] at hb7
  exact hb7
end Go.Proofs.YtkdlofgfkfhofaaGreatDoor
