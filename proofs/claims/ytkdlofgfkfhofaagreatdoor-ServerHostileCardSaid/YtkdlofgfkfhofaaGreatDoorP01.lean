import Derived.Test.YtkdlofgfkfhofaaGreatDoorP00
import Derived.ProofKit
import Derived.OpenShut
import Derived.ShutString
import Derived.ChangeOld
import Derived.Deep.Slices
import Derived.Laws.StructEq
import Derived.Deep.MidRow
/-
  Disks and racks as data.
-/
namespace Go.Proofs.YtkdlofgfkfhofaaGreatDoor

/-- a disk: how many sectors, what they have, what waits for them, is it dead -/
structure DskM where
  n : Nat
  sec : Nat → List UInt8
  wt : Nat → Option (List UInt8)
  dead : Bool
/-- a blank disk -/
def blankD (n : Nat) (dead : Bool) : DskM := ⟨n, fun _ => rep 128 0, fun _ => none, dead⟩
/-- what a sector is read as -/
def DskM.read (M : DskM) (i : Nat) : List UInt8 := (M.wt i).getD (M.sec i)
def DskM.write (M : DskM) (i : Nat) (b : List UInt8) : DskM := { M with wt := fun j => if j = i then some b else M.wt j }
/-- what waits for some sectors is there -/
def DskM.puts (M : DskM) (p : Nat → Bool) : DskM := { M with sec := fun j => if p j then (M.wt j).getD (M.sec j) else M.sec j }
def DskM.calm (M : DskM) : DskM := { M with wt := fun _ => none }
def DskM.flush (M : DskM) : DskM := (M.puts fun _ => true).calm
structure DskM.Ok (M : DskM) : Prop where
  pos : 1 ≤ M.n
  few : M.n ≤ 128
  sec : ∀ i, (M.sec i).length = 128
  wt : ∀ i b, M.wt i = some b → i < M.n ∧ b.length = 128
theorem blankD_ok {n : Nat} (h : 1 ≤ n) (h2 : n ≤ 128) (dead : Bool) : (blankD n dead).Ok := ⟨h, h2, fun _ => rep_len _ _, fun _ _ h => by cases h⟩
theorem DskM.Ok.read {M : DskM} (h : M.Ok) (i : Nat) : (M.read i).length = 128 := by
  unfold DskM.read
  cases hw : M.wt i with
  | none => exact h.sec i
  | some b => exact (h.wt i b hw).2
theorem DskM.Ok.write {M : DskM} (h : M.Ok) {i : Nat} {b : List UInt8} (hi : i < M.n) (hb : b.length = 128) : (M.write i b).Ok := by
  refine ⟨h.pos, h.few, h.sec, fun j c hj => ?_⟩
  have hj : (if j = i then some b else M.wt j) = some c := hj
  split at hj
  · rename_i e
    cases hj
    exact ⟨by rw [e]; exact hi, hb⟩
  · exact h.wt j c hj
theorem DskM.Ok.puts {M : DskM} (h : M.Ok) (p : Nat → Bool) : (M.puts p).Ok := by
  refine ⟨h.pos, h.few, fun j => ?_, h.wt⟩
  show (if p j then (M.wt j).getD (M.sec j) else M.sec j).length = 128
  split
  · exact h.read j
  · exact h.sec j
theorem DskM.Ok.calm {M : DskM} (h : M.Ok) : M.calm.Ok := ⟨h.pos, h.few, h.sec, fun _ _ h => by cases h⟩
theorem DskM.Ok.flush {M : DskM} (h : M.Ok) : M.flush.Ok := (h.puts _).calm
/-- a rack: how many disks, they, is the power off, the fuse -/
structure RackM where
  n : Nat
  d : Nat → DskM
  off : Bool
  fuse : Int
structure RackM.Ok (M : RackM) : Prop where
  pos : 1 ≤ M.n
  few : M.n ≤ 8
  d : ∀ i, i < M.n → (M.d i).Ok
  same : ∀ i, i < M.n → (M.d i).n = (M.d 0).n
  f0 : -1 ≤ M.fuse
  f1 : M.fuse ≤ 9223372036854775807
def RackM.sectors (M : RackM) : Nat := (M.d 0).n
def RackM.up (M : RackM) (i : Int) : Bool := decide (0 ≤ i) && (decide (i < M.n) && !(M.d i.toNat).dead)
def RackM.set (M : RackM) (i : Nat) (D : DskM) : RackM := { M with d := fun j => if j = i then D else M.d j }
/-- may an operation be done to a disk: the rack behind it, what is wrong -/
def RackM.may (M : RackM) (i : Int) (wrong : Bool) : RackM × Int :=
  if ¬ (0 ≤ i ∧ i < M.n) then (M, 1)
  else if M.off = true ∨ M.up i = false then (M, 5)
  else if wrong = true then (M, 1)
  else if M.fuse = 0 then ({ M with off := true }, 5)
  else if 0 < M.fuse then ({ M with fuse := M.fuse - 1 }, 0)
  else (M, 0)
def RackM.write (M : RackM) (i s : Int) (b : List UInt8) : RackM × Int :=
  match M.may i (decide (s < 0 ∨ M.sectors ≤ s ∨ b.length ≠ 128)) with
  | (M', k) => if k = 0 then (M'.set i.toNat ((M'.d i.toNat).write s.toNat b), 0) else (M', k)
def RackM.flush (M : RackM) (i : Int) : RackM × Int :=
  match M.may i false with
  | (M', k) => if k = 0 then (M'.set i.toNat (M'.d i.toNat).flush, 0) else (M', k)
/-- a sector of a disk, read -/
def RackM.read (M : RackM) (i s : Int) : Except Int (List UInt8) :=
  if ¬ (0 ≤ i ∧ i < M.n) then .error 1
  else if M.off = true then .error 5
  else if (M.d i.toNat).dead = true then .error 5
  else if s < 0 ∨ M.sectors ≤ s then .error 1
  else .ok ((M.d i.toNat).read s.toNat)
def RackM.online (M : RackM) : List Nat := (List.range M.n).filter fun i => !(M.d i).dead
def onlineI (M : RackM) : List Int := M.online.map fun (d : Nat) => (d : Int)
end Go.Proofs.YtkdlofgfkfhofaaGreatDoor

/-
  A cut slice's place under one name: where the room ends at the cut the model keeps the old address, and the walk need not part on it.
-/
namespace Go.Proofs.YtkdlofgfkfhofaaGreatDoor
open Go.RowKit

/-- where 'x[l:]' begins: x at a, room m, elements of s cells -/
def pastA (a : Option Addr) (l m s : Nat) : Option Addr := if m = l then a else a.map (·.add (l * s))
theorem sliced_past (a : Option Addr) (l h m s : Nat) : sliced a l h m s = .slice (pastA a l m s) (h - l) (m - l) := rfl
theorem pastA_zero (a : Option Addr) (m s : Nat) : pastA a 0 m s = a := by
  unfold pastA
  split
  · rfl
  · cases a <;> simp [Addr.add]
theorem pastA_ne (a : Option Addr) (l m s : Nat) (h : m ≠ l) : pastA a l m s = a.map (·.add (l * s)) := if_neg h
theorem pastA_some (g off l m s : Nat) (h : m ≠ l) : pastA (some ⟨g, off, none⟩) l m s = some ⟨g, off + l * s, none⟩ := by
  rw [pastA_ne _ _ _ _ h]
  show some ((Addr.mk g off none).add (l * s)) = _
  rw [Addr.add_none]
theorem Rd.past {w : World} {B : Nat} {A : Option Addr} {n c : Nat} {xs : List Value} (h : Rd w B A n c xs) (k : Nat) (hk : k ≤ n) : Rd w B (pastA A k c 1) (n - k) (c - k) (xs.drop k) := by
  have hl := h.len
  have hc := h.cap
  have hb := h.big
  refine ⟨by rw [List.length_drop]; omega, by omega, by omega, fun j u hu => ?_⟩
  have hj := (List.getElem?_eq_some_iff.1 hu).1
  rw [List.length_drop] at hj
  obtain ⟨ad, e, hlt, hce⟩ := h.cell (k + j) u (by rw [← hu]; simp)
  refine ⟨ad.add k, ?_, by rw [add_block]; exact hlt, by rw [add_add']; exact hce⟩
  rw [pastA_ne _ _ _ _ (by omega), e, Nat.mul_one]
  rfl
theorem RdB.past' {w : World} {A : Option Addr} {n c : Nat} {l : List UInt8} (h : RdB w A n c l) (k : Nat) (hk : k ≤ n) : RdB w (pastA A k c 1) (n - k) (c - k) (l.drop k) := by
  have := Rd.past h k hk
  have e : (bvs l).drop k = bvs (l.drop k) := by simp [bvs, List.map_drop]
  rw [e] at this
  exact this
theorem below_le {B B' : Nat} {a b : World} (h : B ≤ B') (k : Below B' a b) : Below B a b := ⟨k.os, k.tape, k.output, k.size, fun i hi => k.block i (by omega)⟩
theorem grown_of_below {w w' : World} (h : Below w.heap.size w w') : w.grownBy w' none := ⟨h.os, h.tape, h.output, h.size, fun i hi _ => h.block i hi⟩
theorem grown_set (w : World) (p : Addr) (u : Value) : w.grownBy (w.setCell p u) (some p.block) := ⟨rfl, rfl, rfl, by simp [World.setCell], fun i _ hi => Below.heap_setCell w p u i (fun e => hi (by rw [e]))⟩
/-- what lies below B stands, though a block turned -/
theorem below_grown {w w' : World} {b B : Nat} {a : World} (h : Below B a w) (hB : B ≤ w.heap.size) (hg : w.grownBy w' (some b)) (hb : B ≤ b) : Below B a w' :=
  h.grown hg hB (fun j hj => by cases hj; exact hb)
/-- the world under a letter, with what is known of it -/
theorem wp_cut {P : Program} {c : Code} {Q : Exit → Act → World → Prop} {a : Act} {W : World} (F : World → Prop) (hF : F W) (h : ∀ w', F w' → Code.wp P c Q a w') : Code.wp P c Q a W := h W hF
/-- 'copy' of bytes at a step of a region that draws its order -/
theorem step_copy_bytes {P : Program} {ops : Array Oper} {o : Oper} {a : Act} {w : World} {K : Act → World → Prop} {Q : Exit → Act → World → Prop} {E : Prop} (hgd : o.guard = none) (d s : Operand) (dT sT : TypeId)
    (ho : o.op = .call { callee := .builtin .copy, args := #[d, s], argTypes := #[dT, sT] }) (e : TypeId) (hu : P.underlying dT = some (.slice e)) (hsz : (P.info? e).map (·.size) = some 1)
    (dp : Option Addr) (dLen dCap sLen sCap : Nat) (sp : Option Addr) (hd : a.eval d = .slice dp dLen dCap) (hs : a.eval s = .slice sp sLen sCap)
    (g off : Nat) (cur : List Value) (t : TypeId) (hg : Bk w g t cur.toArray) (new : List UInt8) (hr : RdB w sp sLen sCap new)
    (hdp : dp = some ⟨g, off, none⟩) (hfit : off + dLen ≤ cur.length) (B : Nat) (w0 : World) (hb : Below B w0 w) (hB : B ≤ g)
    (h : ∀ w', Hid (Bk w' g t (splice cur off (bvs (new.take dLen))).toArray) → Below B w0 w' → K (a.put o.dst (goInt (Nat.min sLen dLen))) w') :
    if Region.wanted o (yielded ops a.tmps) = true then Oper.wp P o a w K Q else E := by
  have hlen := hr.len
  have hcl : (bvs (new.take dLen)).length = Nat.min sLen dLen := by rw [bvs_len, List.length_take, hlen]; exact Nat.min_comm _ _
  refine step_copy_splice hgd d s dT sT ho e hu hsz dp sp dLen dCap sLen sCap hd hs g off cur t hg (bvs (new.take dLen)) hcl ?_ ?_ ?_ B w0 hb hB ?_
  · intro hp
    refine ⟨hdp, ?_⟩
    rw [hcl] at hp
    have h0 : 0 < sLen := Nat.lt_of_lt_of_le hp (Nat.min_le_left _ _)
    obtain ⟨ad, x, hA, _, _, _⟩ := hr.get h0
    refine ⟨ad, hA, fun j v hv => ?_⟩
    have hj : j < Nat.min sLen dLen := by rw [← hcl]; exact (List.getElem?_eq_some_iff.1 hv).1
    obtain ⟨ad', x', hA', _, hx', hc'⟩ := hr.get (Nat.lt_of_lt_of_le hj (Nat.min_le_left _ _))
    rw [hA] at hA'
    injection hA' with hA'
    subst hA'
    rw [hc', ← hv]
    have hx := hx'.out
    have hjd : j < dLen := Nat.lt_of_lt_of_le hj (Nat.min_le_right _ _)
    simp [bvs, bv, hjd, hx]
  · rw [hcl]
    have h1 : Nat.min sLen dLen ≤ dLen := Nat.min_le_right sLen dLen
    generalize Nat.min sLen dLen = q at h1 ⊢
    omega
  · intro v hv
    obtain ⟨b, _, rfl⟩ := List.mem_map.1 hv
    rfl
  · intro w' hw' hb'
    rw [hcl]
    exact h w' hw'.out hb'
theorem splice_bytes (old new : List UInt8) (off : Nat) : splice (bvs old) off (bvs new) = bvs (laid old off new) := by
  unfold splice laid bvs
  simp [List.map_take, List.map_drop]
/-- old cells and marks behind a call that made memory -/
theorem bcell {W w1 : World} (hb : Below W.heap.size W w1) : (∀ b o, b < W.heap.size → w1.cell? ⟨b, o, none⟩ = W.cell? ⟨b, o, none⟩) ∧ (∀ b o, b < W.heap.size → w1.frozen? ⟨b, o, none⟩ = W.frozen? ⟨b, o, none⟩) :=
  ⟨fun b o h => hb.cell (p := ⟨b, o, none⟩) h, fun b o h => hb.frozen (p := ⟨b, o, none⟩) h⟩
theorem Bk.grown {w w' : World} {g : Nat} {t : TypeId} {cs : Array Value} {row : Option Nat} (h : Bk w g t cs) (hg : w.grownBy w' row) (hne : some g ≠ row) : Bk w' g t cs := (hg.block g h.lt hne).trans h
theorem Bb.grown {w w' : World} {g : Nat} {t : TypeId} {l : List UInt8} {row : Option Nat} (h : Bb w g t l) (hg : w.grownBy w' row) (hne : some g ≠ row) : Bb w' g t l := Bk.grown h hg hne
end Go.Proofs.YtkdlofgfkfhofaaGreatDoor

/-
  What the arguments of a law read as: bytes, numbers, texts; and the last step of a law's row, whatever its arguments: where the call returns true and leaves what was there, each argument reads as it did.
-/
namespace Go.Proofs.YtkdlofgfkfhofaaGreatDoor
open Go.ChangeShapes Go.WideShapes Go.ChangeAt Go.RowKit
open Go.ChangeMaps (open_string shut_string)

set_option maxRecDepth 100000 in
theorem own : ownKnob Tryz.prog.godebug = none := by kernel_rfl
set_option maxRecDepth 100000 in
theorem laidOut : laidOutB Tryz.prog = true := by kernel_rfl
set_option maxRecDepth 100000 in
theorem cells_byte : Tryz.prog.cellsOf 5 = 1 := by kernel_rfl

set_option maxRecDepth 100000 in
theorem cell_lt {w : World} {a : Addr} {v : Value} (h : w.cell? a = some v) : a.block < w.heap.size := by
  rcases Nat.lt_or_ge a.block w.heap.size with h' | h'
  · exact h'
  · simp [World.cell?, Array.getElem?_eq_none h'] at h
set_option maxRecDepth 100000 in
theorem wf_u8 {z : Int} (h : (Lit.int .u8 z).wf = true) : 0 ≤ z ∧ z ≤ 255 := by
  simp only [Lit.wf, Bool.and_eq_true, decide_eq_true_eq] at h
  exact ⟨h.1, h.2⟩
set_option maxRecDepth 100000 in
theorem wf_i64 {z : Int} (h : (Lit.int .i64 z).wf = true) : -9223372036854775808 ≤ z ∧ z ≤ 9223372036854775807 := by
  simp only [Lit.wf, Bool.and_eq_true, decide_eq_true_eq] at h
  exact ⟨h.1, h.2⟩
set_option maxRecDepth 100000 in
theorem wf_u32 {z : Int} (h : (Lit.int .u32 z).wf = true) : 0 ≤ z ∧ z ≤ 4294967295 := by
  simp only [Lit.wf, Bool.and_eq_true, decide_eq_true_eq] at h
  exact ⟨h.1, h.2⟩

section
variable {H : Type} {enc : TypeId × Value → H} {W : World} {base : Nat} {v : Value} {d : DataW H} {p : List MemPlace}
/-- what is known of an argument of type t -/
def Came (enc : TypeId × Value → H) (W : World) (base : Nat) (t : TypeId) (v : Value) (d : DataW H) (p : List MemPlace) : Prop :=
  Value.okWide Tryz.prog W .any base t v ∧ DataW.Trod enc Tryz.prog W 0 (fun _ => true) true t v d p

set_option maxRecDepth 100000 in
theorem bytes_of_row {a : Addr} {len cap : Nat} {zs : List Int} (hl : len ≤ cap) (hm : cap ≤ maxLen) (hz : zs.length = cap) (hcell : ∀ i, i < zs.length → W.cell? (a.add i) = some (.int .u8 (zs.getD i 0)))
    (hwz : ∀ n ∈ zs, (Lit.int .u8 n).wf = true) : RdB W (some a) len cap ((zs.take len).map fun z => UInt8.ofNat z.toNat) := by
  refine ⟨by rw [bvs_len]; simp; omega, hl, by unfold maxLen at hm; exact hm, fun k u hu => ?_⟩
  have hk : k < len := by
    have := (List.getElem?_eq_some_iff.1 hu).1
    rw [bvs_len] at this
    simp at this; omega
  have hc := hcell k (by omega)
  refine ⟨a, rfl, ?_, ?_⟩
  · have := cell_lt hc
    rwa [add_block] at this
  · have hkz : k < zs.length := by omega
    have hw := wf_u8 (hwz zs[k] (List.getElem_mem hkz))
    rw [hc, ← hu]
    simp only [List.getD_eq_getElem?_getD, Option.getD_some, bvs, List.map_map, List.getElem?_map, List.getElem?_take, if_pos hk, List.getElem?_eq_getElem hkz, Option.map_some]
    simp only [Function.comp, bv, w8, UInt8.toNat_ofNat']
    congr 2
    omega
set_option maxRecDepth 100000 in
theorem Came.bytes (h : Came enc W base 26 v d p) : ∃ A n c l, v = .slice A n c ∧ RdB W A n c l := by
  obtain ⟨A, n, c, rfl⟩ := okWide_slice Tryz.underlying26 h.1
  obtain ⟨fuel, hf⟩ := h.2
  rcases open_ints Tryz.underlying26 Tryz.underlying5 cells_byte hf with ⟨hcs, _⟩ | ⟨x, l, c', zs, hcs, _, hl, hm, hz, _, hcell, hwz⟩
  · simp [Value.cells] at hcs
    obtain ⟨rfl, rfl, rfl⟩ := hcs
    exact ⟨none, 0, 0, [], rfl, Rd.nil W _⟩
  · simp [Value.cells] at hcs
    obtain ⟨rfl, rfl, rfl⟩ := hcs
    exact ⟨_, _, _, _, rfl, bytes_of_row hl hm (by simpa using hz) hcell hwz⟩
/-- a slice of slices of bytes -/
def RdL (w : World) (A : Option Addr) (n c : Nat) (ls : List (List UInt8)) : Prop :=
  ls.length = n ∧ n ≤ c ∧ c ≤ 9223372036854775807 ∧ ∀ k l, ls[k]? = some l → ∃ ad A' n' c', A = some ad ∧ ad.block < w.heap.size ∧ w.cell? (ad.add k) = some (.slice A' n' c') ∧ RdB w A' n' c' l
set_option maxRecDepth 100000 in
theorem bytes_of_cell {fuel : Nat} {u : Value} {x : DataW H × List MemPlace} (h : DataW.trod enc Tryz.prog W 0 (fun _ => true) true fuel 26 [u] = some x) : ∃ A n c l, u = .slice A n c ∧ RdB W A n c l := by
  rcases open_ints Tryz.underlying26 Tryz.underlying5 cells_byte h with ⟨hcs, _⟩ | ⟨x, l, c', zs, hcs, _, hl, hm, hz, _, hcell, hwz⟩
  · injection hcs with h1 _
    exact ⟨none, 0, 0, [], h1, Rd.nil W _⟩
  · injection hcs with h1 _
    exact ⟨_, _, _, _, h1, bytes_of_row hl hm (by simpa using hz) hcell hwz⟩
set_option maxRecDepth 100000 in
theorem cells_bytes : Tryz.prog.cellsOf 26 = 1 := by kernel_rfl
set_option maxRecDepth 100000 in
theorem Came.rows (h : Came enc W base 58 v d p) : ∃ A n c ls, v = .slice A n c ∧ RdL W A n c ls := by
  obtain ⟨A, n, c, rfl⟩ := okWide_slice Tryz.underlying58 h.1
  obtain ⟨fuel, hf⟩ := h.2
  rcases Go.Deep.open_slice Tryz.underlying58 hf with ⟨hcs, _⟩ | ⟨a, len, cap, m, n', D, Pl, hcs, _, hl, hm, hmm, _, hi⟩
  · simp [Value.cells] at hcs
    obtain ⟨rfl, rfl, rfl⟩ := hcs
    exact ⟨none, 0, 0, [], rfl, rfl, Nat.le_refl _, by omega, fun k l h => by simp at h⟩
  · simp [Value.cells] at hcs
    obtain ⟨rfl, rfl, rfl⟩ := hcs
    rw [cells_bytes] at hi
    have hget : ∀ i, ∃ l : List UInt8, i < n → ∃ A' n' c', a.block < W.heap.size ∧ W.cell? (a.add i) = some (.slice A' n' c') ∧ RdB W A' n' c' l := by
      intro i
      by_cases hin : i < n
      · obtain ⟨cs', hc, ht⟩ := hi i (by rw [hmm]; simp; omega)
        obtain ⟨_, hcl, hat⟩ := World.cells?_some hc
        match cs', hcl with
        | [u], _ =>
          obtain ⟨A', n', c', l, rfl, hr⟩ := bytes_of_cell ht
          have hce := hat 0 (by omega)
          rw [Nat.mul_one, add_add', Nat.add_zero] at hce
          have hlt := cell_lt (hce.trans (by rfl))
          rw [add_block] at hlt
          exact ⟨l, fun _ => ⟨A', n', c', hlt, hce, hr⟩⟩
      · exact ⟨[], fun h => absurd h hin⟩
    obtain ⟨f, hf'⟩ := Classical.axiomOfChoice hget
    refine ⟨some a, n, c, (List.range n).map f, rfl, by simp, hl, by unfold maxLen at hm; exact hm, fun k l hk => ?_⟩
    have hkn : k < n := by have := (List.getElem?_eq_some_iff.1 hk).1; simpa using this
    simp [hkn] at hk
    subst hk
    obtain ⟨A', n', c', h1, h2, h3⟩ := hf' k hkn
    exact ⟨a, A', n', c', rfl, h1, h2, h3⟩
set_option maxRecDepth 100000 in
theorem Came.int (h : Came enc W base 3 v d p) : ∃ z, v = .int .i64 z ∧ -9223372036854775808 ≤ z ∧ z ≤ 9223372036854775807 := by
  obtain ⟨z, rfl, _, _, hw⟩ := open_int Tryz.underlying3 h.1 h.2
  exact ⟨z, rfl, wf_i64 hw⟩
set_option maxRecDepth 100000 in
theorem Came.u32 (h : Came enc W base 34 v d p) : ∃ x, v = .int .u32 (w32 x) := by
  obtain ⟨z, rfl, _, _, hw⟩ := open_int Tryz.underlying34 h.1 h.2
  have hz := wf_u32 hw
  refine ⟨BitVec.ofNat 32 z.toNat, ?_⟩
  congr 1
  unfold w32
  rw [BitVec.toNat_ofNat]
  omega
set_option maxRecDepth 100000 in
theorem Came.u8 (h : Came enc W base 5 v d p) : ∃ x, v = .int .u8 (w8 x) := by
  obtain ⟨z, rfl, _, _, hw⟩ := open_int Tryz.underlying5 h.1 h.2
  have hz := wf_u8 hw
  refine ⟨UInt8.ofNat z.toNat, ?_⟩
  congr 1
  unfold w8
  rw [UInt8.toNat_ofNat']
  omega
set_option maxRecDepth 100000 in
theorem Came.lt {t : TypeId} (h : Came enc W base t v d p) : ∀ x ∈ p, x.block < W.heap.size := by obtain ⟨m, hm⟩ := h.2; exact DataW.trod_lt m _ _ _ hm
set_option maxRecDepth 100000 in
/-- behind the call: as it read -/
theorem Came.back {t : TypeId} {W' : World} (h : Came enc W base t v d p) (hb : Below W.heap.size W W') (hr : Tryz.prog.readableRec t = true) (hrow : t < Tryz.prog.types.size) :
    DataW.Trod enc Tryz.prog W' 0 (fun b => decide (b < W.heap.size)) true t v d p := Below.trod laidOut hr hrow h.2 hb h.lt
end
end Go.Proofs.YtkdlofgfkfhofaaGreatDoor

/-
  A frame as data: its cells; a block that holds one; the walk of frame.Right, of the document's RightFrame.
-/
namespace Go.Proofs.YtkdlofgfkfhofaaGreatDoor
open Go.RowKit

/-- what a frame is, as data -/
structure Frm where
  kind : Int
  slot : Int
  stripe : Int
  gen : Int
  data : List UInt8
/-- numbers that an int may be, and 108 bytes -/
structure Frm.ok (f : Frm) : Prop where
  k0 : -9223372036854775808 ≤ f.kind
  k1 : f.kind ≤ 9223372036854775807
  s0 : -9223372036854775808 ≤ f.slot
  s1 : f.slot ≤ 9223372036854775807
  t0 : -9223372036854775808 ≤ f.stripe
  t1 : f.stripe ≤ 9223372036854775807
  g0 : -9223372036854775808 ≤ f.gen
  g1 : f.gen ≤ 9223372036854775807
  len : f.data.length = 108
def Frm.cells (f : Frm) : Array Value := (.int .i64 f.kind :: .int .i64 f.slot :: .int .i64 f.stripe :: .int .i64 f.gen :: bvs f.data).toArray
theorem Frm.c0 (f : Frm) : f.cells[0]? = some (.int .i64 f.kind) := rfl
theorem Frm.c1 (f : Frm) : f.cells[1]? = some (.int .i64 f.slot) := rfl
theorem Frm.c2 (f : Frm) : f.cells[2]? = some (.int .i64 f.stripe) := rfl
theorem Frm.c3 (f : Frm) : f.cells[3]? = some (.int .i64 f.gen) := rfl
theorem Frm.size {f : Frm} (h : f.data.length = 108) : f.cells.size = 112 := by simp [Frm.cells, bvs, h]
/-- is n from lo to hi? -/
def inB (n lo hi : Int) : Bool := decide (lo ≤ n ∧ n ≤ hi)
theorem inB_yes {n lo hi : Int} (h : inB n lo hi = true) : lo ≤ n ∧ n ≤ hi := of_decide_eq_true h
theorem inB_no {n lo hi : Int} (h : inB n lo hi = false) : ¬ (lo ≤ n ∧ n ≤ hi) := of_decide_eq_false h
def Frm.right (f : Frm) : Bool := inB f.kind 1 3 && (inB f.slot 0 7 && (inB f.stripe 0 63 && inB f.gen 0 1152921504606846976))

set_option maxRecDepth 100000 in
set_option maxHeartbeats 400000 in
theorem fwithin_yes (n lo hi : Int) (w : World) (h1 : lo ≤ n) (h2 : n ≤ hi) :
    Calls Tryz.prog 240 #[.int .i64 n, .int .i64 lo, .int .i64 hi] w fun e w' => e = .returned (.bool true) ∧ w = w' := by
  go_enter Tryz.func240, Tryz.ntmps240
  go_wp2
  go_ret
  exact ⟨rfl, rfl⟩
set_option maxRecDepth 100000 in
set_option maxHeartbeats 400000 in
theorem fwithin_no (n lo hi : Int) (w : World) (h : ¬ (lo ≤ n ∧ n ≤ hi)) :
    Calls Tryz.prog 240 #[.int .i64 n, .int .i64 lo, .int .i64 hi] w fun e w' => e = .returned (.bool false) ∧ w = w' := by
  by_cases h1 : lo ≤ n
  · have h2 : hi < n := by omega
    have h3 : ¬ n ≤ hi := by omega
    clear h
    go_enter Tryz.func240, Tryz.ntmps240
    go_wp2
    go_ret
    exact ⟨rfl, rfl⟩
  · have h2 : n < lo := by omega
    clear h
    go_enter Tryz.func240, Tryz.ntmps240
    go_wp2
    go_ret
    exact ⟨rfl, rfl⟩
theorem fwithin_any (n lo hi : Int) (w : World) :
    Calls Tryz.prog 240 #[.int .i64 n, .int .i64 lo, .int .i64 hi] w fun e w' => e = .returned (.bool (inB n lo hi)) ∧ w = w' := by
  cases h : inB n lo hi with
  | true => exact fwithin_yes n lo hi w (inB_yes h).1 (inB_yes h).2
  | false => exact fwithin_no n lo hi w (inB_no h)
theorem ret_bool2 {a b : Bool} (h : b = a) : Ending.returned (.bool a) = .returned (.bool b) := by rw [h]
attribute [local go_sem] Frm.c0 Frm.c1 Frm.c2 Frm.c3
set_option maxRecDepth 100000 in
set_option maxHeartbeats 1000000 in
theorem right_any (f : Frm) (w : World) : Calls Tryz.prog 191 #[.agg f.cells] w fun e w' => e = .returned (.bool f.right) ∧ Below w.heap.size w w' := by
  cases h1 : inB f.kind 1 3 <;> cases h2 : inB f.slot 0 7 <;> cases h3 : inB f.stripe 0 63 <;> cases h4 : inB f.gen 0 1152921504606846976
  all_goals
    go_enter Tryz.func191, Tryz.ntmps191
    go_wp2_with (go_at_call 240; (with_reducible refine (fwithin_any _ _ _ _).mono ?_); rintro e w' ⟨rfl, rfl⟩)
    go_ret
    exact ⟨ret_bool2 (by simp [Frm.right, h1, h2, h3, h4]), below_new _ _⟩
theorem right_iff (f : Frm) : f.right = true ↔ (1 ≤ f.kind ∧ f.kind ≤ 3) ∧ (0 ≤ f.slot ∧ f.slot ≤ 7) ∧ (0 ≤ f.stripe ∧ f.stripe ≤ 63) ∧ (0 ≤ f.gen ∧ f.gen ≤ 1152921504606846976) := by
  simp [Frm.right, inB]
end Go.Proofs.YtkdlofgfkfhofaaGreatDoor

/-
  Numbers as bytes, the lowest first, and back: plain lists.
-/
namespace Go.Proofs.YtkdlofgfkfhofaaGreatDoor
open Go.RowKit

/-- byte i of a number -/
def byteAt (x i : Nat) : UInt8 := UInt8.ofNat (x / 2 ^ (8 * i))
/-- the k lowest bytes -/
def leB : Nat → Nat → List UInt8
  | 0, _ => []
  | k + 1, x => UInt8.ofNat x :: leB k (x / 256)
/-- the number of bytes -/
def leN : List UInt8 → Nat
  | [] => 0
  | b :: r => b.toNat + 256 * leN r
theorem leB_len (k : Nat) : ∀ x, (leB k x).length = k := by
  induction k with
  | zero => intro x; rfl
  | succ k ih => intro x; simp [leB, ih]
theorem byteAt_zero (x : Nat) : byteAt x 0 = UInt8.ofNat x := by simp [byteAt]
theorem byteAt_succ (x i : Nat) : byteAt x (i + 1) = byteAt (x / 256) i := by
  unfold byteAt
  rw [Nat.div_div_eq_div_mul, show 8 * (i + 1) = 8 + 8 * i by omega, Nat.pow_add]
theorem leB_snoc (k : Nat) : ∀ x, leB (k + 1) x = leB k x ++ [byteAt x k] := by
  induction k with
  | zero => intro x; simp [leB, byteAt_zero]
  | succ k ih =>
    intro x
    show UInt8.ofNat x :: leB (k + 1) (x / 256) = UInt8.ofNat x :: (leB k (x / 256) ++ [byteAt x (k + 1)])
    rw [ih, byteAt_succ]
theorem leN_leB (k : Nat) : ∀ x, leN (leB k x) = x % 256 ^ k := by
  induction k with
  | zero => intro x; simp [leB, leN, Nat.mod_one]
  | succ k ih =>
    intro x
    show (UInt8.ofNat x).toNat + 256 * leN (leB k (x / 256)) = _
    rw [ih, UInt8.toNat_ofNat', show (256 : Nat) ^ (k + 1) = 256 * 256 ^ k by rw [Nat.pow_succ, Nat.mul_comm], Nat.mod_mul]
theorem leB_leN (l : List UInt8) : leB l.length (leN l) = l := by
  induction l with
  | nil => rfl
  | cons b r ih =>
    show UInt8.ofNat (b.toNat + 256 * leN r) :: leB r.length ((b.toNat + 256 * leN r) / 256) = _
    have hb := b.toNat_lt
    have e1 : UInt8.ofNat (b.toNat + 256 * leN r) = b := by
      apply UInt8.toNat_inj.1
      rw [UInt8.toNat_ofNat']
      omega
    have e2 : (b.toNat + 256 * leN r) / 256 = leN r := by omega
    rw [e1, e2, ih]
theorem leN_lt (l : List UInt8) : leN l < 256 ^ l.length := by
  induction l with
  | nil => simp [leN]
  | cons b r ih =>
    have hb := b.toNat_lt
    show b.toNat + 256 * leN r < 256 ^ (r.length + 1)
    rw [Nat.pow_succ]
    omega
theorem leN_append (l r : List UInt8) : leN (l ++ r) = leN l + 256 ^ l.length * leN r := by
  induction l with
  | nil => simp [leN]
  | cons b l ih =>
    show b.toNat + 256 * leN (l ++ r) = b.toNat + 256 * leN l + 256 ^ (l.length + 1) * leN r
    rw [ih, Nat.mul_add, Nat.pow_succ, ← Nat.mul_assoc, Nat.mul_comm 256 (256 ^ l.length)]
    omega
theorem leN_snoc (l : List UInt8) (b : UInt8) : leN (l ++ [b]) = leN l + 256 ^ l.length * b.toNat := by
  rw [leN_append]; simp [leN]
/-- a byte put behind what was laid -/
theorem laid_snoc (old new : List UInt8) (off : Nat) (b : UInt8) (h : off + new.length < old.length) : (laid old off new).set (off + new.length) b = laid old off (new ++ [b]) := by
  unfold laid
  have h1 : (old.take off).length = off := by rw [List.length_take]; omega
  rw [List.set_append_right _ _ (by omega), h1, List.set_append_right _ _ (by omega), show off + new.length - off - new.length = 0 by omega, List.length_append, List.length_singleton, List.append_assoc]
  congr 2
  obtain ⟨y, hy⟩ : ∃ y, old[off + new.length]? = some y := ⟨_, List.getElem?_eq_getElem h⟩
  have h2 := (List.getElem?_eq_some_iff.1 hy)
  rw [List.drop_eq_getElem_cons h, List.set_cons_zero]
  rfl
theorem laid_nil (old : List UInt8) (off : Nat) : laid old off [] = old := by
  unfold laid; simp
theorem byteAt_w8 (x k : Nat) : ((x : Int) / 2 ^ (8 * k)) % 256 = w8 (byteAt x k) := by
  unfold w8 byteAt
  rw [UInt8.toNat_ofNat']
  have e : ((x : Int) / 2 ^ (8 * k)) = ((x / 2 ^ (8 * k) : Nat) : Int) := by
    rw [Int.natCast_ediv]
    simp
  rw [e]
  omega
/-- what a signed number of 64 bits makes of bytes -/
def wrapN (n : Nat) : Int := if n < 9223372036854775808 then (n : Int) else (n : Int) - 18446744073709551616
theorem ofInt_wrapN (n : Nat) : BitVec.ofInt 64 (wrapN n) = BitVec.ofNat 64 n := by
  apply BitVec.eq_of_toNat_eq
  rw [BitVec.toNat_ofInt, BitVec.toNat_ofNat]
  unfold wrapN
  split <;> omega
theorem ofInt_wrap64 (z : Int) : BitVec.ofInt 64 (wrap64 z) = BitVec.ofInt 64 z := by
  apply BitVec.eq_of_toNat_eq
  rw [BitVec.toNat_ofInt, BitVec.toNat_ofInt]
  unfold wrap64
  congr 1
  omega
theorem wrap_wrapN (n : Nat) (h : n < 18446744073709551616) : IntKind.i64.wrap (n : Int) = wrapN n := by
  rw [IntKind.wrap_i64]
  unfold wrapN
  split <;> omega
theorem pow8_le (k : Nat) (hk : k ≤ 7) : (2 : Nat) ^ (8 * k) ≤ 72057594037927936 := by
  have := Nat.pow_le_pow_right (show 0 < 2 by omega) (show 8 * k ≤ 56 by omega)
  omega
/-- one byte more into a signed number of 64 bits -/
theorem or_step (a k : Nat) (x : UInt8) (hk : k ≤ 7) (ha : a < 2 ^ (8 * k)) : bits .or .i64 (wrapN a) (wrap64 (w8 x * 2 ^ (8 * k))) = wrapN (a + 2 ^ (8 * k) * x.toNat) := by
  have hp := pow8_le k hk
  have hx := x.toNat_lt
  have hmul : 2 ^ (8 * k) * x.toNat ≤ 72057594037927936 * 255 := Nat.mul_le_mul hp (by omega)
  have e : w8 x * 2 ^ (8 * k) = ((2 ^ (8 * k) * x.toNat : Nat) : Int) := by
    unfold w8
    rw [Int.natCast_mul, Int.mul_comm]
    simp
  show IntKind.i64.wrap ((BitVec.ofInt 64 (wrapN a) ||| BitVec.ofInt 64 (wrap64 (w8 x * 2 ^ (8 * k)))).toNat : Int) = _
  rw [ofInt_wrapN, ofInt_wrap64, e, BitVec.ofInt_natCast, BitVec.toNat_or, BitVec.toNat_ofNat, BitVec.toNat_ofNat, Nat.mod_eq_of_lt (show a < 2 ^ 64 by omega), Nat.mod_eq_of_lt (show 2 ^ (8 * k) * x.toNat < 2 ^ 64 by omega),
    Nat.or_comm, nat_join (8 * k) _ _ (Nat.mul_mod_right _ _) ha, Nat.add_comm, wrap_wrapN _ (by omega)]
theorem laid_mid (p m q new : List UInt8) (off : Nat) (hp : p.length = off) (hm : m.length = new.length) : laid (p ++ (m ++ q)) off new = p ++ (new ++ q) := by
  unfold laid
  subst hp
  rw [List.take_left, ← hm, ← List.append_assoc p m q, ← List.length_append, List.drop_left]
theorem wrap_u64_in (z : Int) (h0 : 0 ≤ z) (h1 : z < 18446744073709551616) : IntKind.u64.wrap z = z := by
  rw [IntKind.wrap_u64, Int.emod_eq_of_lt h0 h1]
theorem pow256 (k : Nat) : 256 ^ k = 2 ^ (8 * k) := by
  rw [Nat.pow_mul]
end Go.Proofs.YtkdlofgfkfhofaaGreatDoor

/-
  The walks of frame.low and frame.number, of the document's Num and Big.
-/
namespace Go.Proofs.YtkdlofgfkfhofaaGreatDoor
open Go.RowKit
attribute [local go_sem] w8_nn w8_256 wrap_i64_w8 wrap64_w8 pastA_zero pastA_some
attribute [local go_sem ↓] sliced_past

set_option maxRecDepth 100000 in
set_option maxHeartbeats 400000 in
theorem low_any (g off n c : Nat) (t : TypeId) (L : List UInt8) (x : Nat) (w : World) (hb : Bb w g t L) (hn : off + n ≤ L.length) (hs : n ≤ 8) :
    Calls Tryz.prog 192 #[.slice (some ⟨g, off, none⟩) n c, .int .u64 x] w fun e w' => e = .returned (.tuple #[]) ∧ Bb w' g t (laid L off (leB n x)) ∧ w.grownBy w' (some g) := by
  go_enter Tryz.func192, Tryz.ntmps192
  go_wp2
  go_loopw [7] (fun i wr => ∃ k : Nat, k ≤ n ∧ i = .int .i64 k ∧ Bb wr g t (laid L off (leB k x)) ∧ w.grownBy wr (some g)) (fun i _ => n - (intOf i).toNat)
  case atStart => exact ⟨0, Nat.zero_le _, rfl, by rw [show leB 0 x = [] from rfl, laid_nil]; exact hb, ⟨rfl, rfl, rfl, Nat.le_refl _, fun _ _ _ => rfl⟩⟩
  case round =>
    obtain ⟨k, hk, rfl, hbk, hg⟩ := hrel
    by_cases hlt : k < n
    · have hi : (k : Int) < n := by omega
      have hl : (laid L off (leB k x)).length = L.length := laid_len _ _ _ (by rw [leB_len]; omega)
      obtain ⟨y, hy, hc⟩ := hbk.get (i := off + k) (by omega)
      have hf := hbk.thaw (off + k)
      have Hb := Lib.hid hbk
      have Hl := Lib.hid hl
      clear hbk hl hy
      go_wp2
      go_roundw
      case rel =>
        refine ⟨k + 1, by omega, by go_num, ?_, hg.trans (grown_set _ ⟨_, _, none⟩ _)⟩
        have h1 := Hb.out.put (off + k) (byteAt x k)
        have h2 := laid_snoc L (leB k x) off (byteAt x k) (by rw [leB_len]; have := Hl.out; omega)
        rw [leB_len] at h2
        rw [h2, ← leB_snoc, ← byteAt_w8] at h1
        exact h1
      case measure => simp [intOf]; omega
    · have hkn : k = n := by omega
      subst hkn
      go_wp2
      go_end0
      exact ⟨rfl, hbk, hg⟩
/-- the same, of an Int -/
theorem low_intF (g off n c : Nat) (t : TypeId) (L : List UInt8) (x : Int) (w : World) (h0 : 0 ≤ x) (hb : Bb w g t L) (hn : off + n ≤ L.length) (hs : n ≤ 8) (w0 : World) (B : Nat) (hbel : Below B w0 w) (hB : B ≤ g) (hBs : B ≤ w.heap.size) :
    Calls Tryz.prog 192 #[.slice (some ⟨g, off, none⟩) n c, .int .u64 x] w fun e w' => e = .returned (.tuple #[]) ∧ Bb w' g t (laid L off (leB n x.toNat)) ∧ Below B w0 w' := by
  obtain ⟨k, rfl⟩ := Int.eq_ofNat_of_zero_le h0
  refine (low_any g off n c t L k w hb hn hs).mono ?_
  rintro e w' ⟨he, hb', hg⟩
  exact ⟨he, hb', hbel.grown hg hBs fun j hj => by injection hj with hj; omega⟩
set_option maxRecDepth 100000 in
set_option maxHeartbeats 400000 in
theorem number_any (A : Option Addr) (n c : Nat) (l : List UInt8) (w : World) (hr : RdB w A n c l) (hs : n ≤ 8) :
    Calls Tryz.prog 258 #[.slice A n c] w fun e w' => e = .returned (.int .i64 (wrapN (leN l))) ∧ w = w' := by
  have hl := Lib.hid hr.len
  go_enter Tryz.func258, Tryz.ntmps258
  go_wp2
  go_loop [3, 8] (fun s i => ∃ k : Nat, k ≤ n ∧ i = .int .i64 k ∧ s = .int .i64 (wrapN (leN (l.take k)))) (fun _ i => n - (intOf i).toNat)
  case atStart => exact ⟨0, Nat.zero_le _, rfl, rfl⟩
  case round =>
    obtain ⟨k, hk, rfl, rfl⟩ := hrel
    by_cases hlt : k < n
    · have hi : (k : Int) < n := by omega
      obtain ⟨ad, x, rfl, hx, hxk, hc⟩ := hr.get hlt
      have hk7 : k ≤ 7 := by omega
      have hlt8 := leN_lt (l.take k)
      rw [List.length_take, Nat.min_eq_left (by have := hl.out; omega), pow256] at hlt8
      have hst := or_step (leN (l.take k)) k x hk7 hlt8
      have Hl8 := Lib.hid (show leN (l.take (k + 1)) = leN (l.take k) + 2 ^ (8 * k) * x.toNat by rw [hx.out, leN_snoc, List.length_take, Nat.min_eq_left (by have := hl.out; omega), pow256])
      clear hr hxk hlt8
      go_wp2
      go_round
      case rel => exact ⟨k + 1, by omega, by go_num, by rw [Hl8.out]⟩
      case measure => simp [intOf]; omega
    · have hkn : k = n := by omega
      subst hkn
      go_wp2
      go_ret
      refine ⟨ret_int ?_, rfl⟩
      rw [← hl.out, List.take_length]
end Go.Proofs.YtkdlofgfkfhofaaGreatDoor
