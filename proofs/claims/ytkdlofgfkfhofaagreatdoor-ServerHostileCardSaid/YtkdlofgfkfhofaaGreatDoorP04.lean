import Derived.Test.YtkdlofgfkfhofaaGreatDoorP03
import Derived.Maps.Ext
import Derived.Test.YtkdlofgfkfhofaaGreatDoorP01
import Derived.Lib.SlBytesConst
import Derived.Deep.CutRange
import Derived.Test.YtkdlofgfkfhofaaGreatDoorP00
import Derived.Maps.OwnSet
import Derived.Deep.RegionHeld3
/-
  A rack whose disks are up, its power on, without a fuse: what is read behind many writes.
-/
namespace Go.Proofs.YtkdlofgfkfhofaaGreatDoor

/-- all disks up, the power on, no fuse -/
structure RackM.Good (M : RackM) : Prop where
  off : M.off = false
  fuse : M.fuse < 0
  up : ∀ i, i < M.n → (M.d i).dead = false
/-- a sector of a disk is read as -/
def RackM.rd (M : RackM) (i s : Nat) : List UInt8 := (M.d i).read s
theorem DskM.read_write (M : DskM) (i j : Nat) (b : List UInt8) : (M.write i b).read j = if j = i then b else M.read j := by
  unfold DskM.read DskM.write
  dsimp only
  split <;> rfl
theorem DskM.read_flush (M : DskM) (j : Nat) : M.flush.read j = M.read j := rfl
theorem RackM.Good.upI {M : RackM} (h : M.Good) {i : Nat} (hi : i < M.n) : M.up (i : Int) = true := by
  unfold RackM.up
  rw [decide_eq_true (by omega : (0 : Int) ≤ i), decide_eq_true (by omega : (i : Int) < M.n), Int.toNat_natCast, h.up i hi]
  rfl
theorem RackM.Good.may {M : RackM} (h : M.Good) {i : Nat} (hi : i < M.n) : M.may (i : Int) false = (M, 0) := by
  unfold RackM.may
  have := h.fuse
  rw [if_neg (by omega), if_neg (by rw [h.off, h.upI hi]; simp), if_neg (by simp), if_neg (by omega), if_neg (by omega)]
theorem RackM.Good.set {M : RackM} (h : M.Good) {i : Nat} {D : DskM} (hD : D.dead = false) : (M.set i D).Good :=
  ⟨h.off, h.fuse, fun j hj => by
    show (if j = i then D else M.d j).dead = false
    split
    · exact hD
    · exact h.up j hj⟩
theorem RackM.Good.write {M : RackM} (h : M.Good) {i s : Nat} {b : List UInt8} (hi : i < M.n) (hs : s < M.sectors) (hb : b.length = 128) : M.write (i : Int) (s : Int) b = (M.set i ((M.d i).write s b), 0) := by
  unfold RackM.write
  rw [decide_eq_false (by omega), h.may hi]
  dsimp only
  rw [if_pos rfl, Int.toNat_natCast, Int.toNat_natCast]
theorem RackM.Good.flush {M : RackM} (h : M.Good) {i : Nat} (hi : i < M.n) : M.flush (i : Int) = (M.set i (M.d i).flush, 0) := by
  unfold RackM.flush
  rw [h.may hi]
  dsimp only
  rw [if_pos rfl, Int.toNat_natCast]
theorem RackM.Good.read {M : RackM} (h : M.Good) {i s : Nat} (hi : i < M.n) (hs : s < M.sectors) : M.read (i : Int) (s : Int) = .ok (M.rd i s) := by
  unfold RackM.read
  rw [if_neg (by omega), if_neg (by rw [h.off]; simp), Int.toNat_natCast, if_neg (by rw [h.up i hi]; simp), if_neg (by omega), Int.toNat_natCast]
  rfl
theorem RackM.Good.online {M : RackM} (h : M.Good) : M.online = List.range M.n := by
  unfold RackM.online
  rw [List.filter_eq_self]
  intro i hi
  rw [h.up i (List.mem_range.1 hi)]
  rfl
/-- the racks are as great, and M' is good -/
structure RackM.To (M M' : RackM) : Prop where
  n : M'.n = M.n
  sec : M'.sectors = M.sectors
  good : M'.Good
theorem RackM.sec_write (M : RackM) (i s : Nat) (b : List UInt8) : (M.set i ((M.d i).write s b)).sectors = M.sectors := by
  show (if 0 = i then (M.d i).write s b else M.d 0).n = (M.d 0).n
  split
  · rename_i e
    rw [← e]
    rfl
  · rfl
theorem RackM.sec_flush (M : RackM) (i : Nat) : (M.set i (M.d i).flush).sectors = M.sectors := by
  show (if 0 = i then (M.d i).flush else M.d 0).n = (M.d 0).n
  split
  · rename_i e
    rw [← e]
    rfl
  · rfl
/-- what a place has behind writes -/
def wrote (l : List (Int × Int × List UInt8)) (j t : Nat) (old : List UInt8) : List UInt8 := l.foldl (fun o x => if x.1 = (j : Int) ∧ x.2.1 = (t : Int) then x.2.2 else o) old
theorem writes_good : ∀ (l : List (Int × Int × List UInt8)) (M : RackM), M.Good → (∀ x ∈ l, (0 ≤ x.1 ∧ x.1 < M.n) ∧ (0 ≤ x.2.1 ∧ x.2.1 < M.sectors) ∧ x.2.2.length = 128) →
    ∃ M', writesM M l = (M', 0) ∧ M.To M' ∧ ∀ j t, M'.rd j t = wrote l j t (M.rd j t)
  | [], M, h, _ => ⟨M, rfl, ⟨rfl, rfl, h⟩, fun _ _ => rfl⟩
  | (d, s, b) :: r, M, h, hl => by
    obtain ⟨⟨d0, d1⟩, ⟨s0, s1⟩, hb⟩ := hl (d, s, b) (by simp)
    obtain ⟨d, rfl⟩ := Int.eq_ofNat_of_zero_le d0
    obtain ⟨s, rfl⟩ := Int.eq_ofNat_of_zero_le s0
    have hw := h.write (i := d) (s := s) (b := b) (by dsimp only at d1; omega) (by dsimp only at s1; omega) hb
    have hd : ((M.d d).write s b).dead = false := h.up d (by dsimp only at d1; omega)
    obtain ⟨M', h1, h2, h3⟩ := writes_good r (M.set d ((M.d d).write s b)) (h.set hd) (fun x hx => by
      have := hl x (by simp [hx])
      rw [RackM.sec_write]
      exact this)
    refine ⟨M', ?_, ⟨h2.n, h2.sec.trans (RackM.sec_write M d s b), h2.good⟩, fun j t => ?_⟩
    · show (match M.write (d : Int) (s : Int) b with | (M', k) => if k ≠ 0 then (M', k) else writesM M' r) = _
      rw [hw]
      exact h1
    · rw [h3 j t]
      show wrote r j t ((if j = d then (M.d d).write s b else M.d j).read t) = wrote r j t (if (d : Int) = j ∧ (s : Int) = t then b else M.rd j t)
      congr 1
      by_cases e : j = d
      · subst e
        rw [if_pos rfl, DskM.read_write]
        by_cases e2 : t = s
        · subst e2
          rw [if_pos rfl, if_pos ⟨rfl, rfl⟩]
        · rw [if_neg e2, if_neg (by omega)]
          rfl
      · rw [if_neg e, if_neg (by omega)]
        rfl
theorem flushes_good : ∀ (l : List Int) (M : RackM), M.Good → (∀ x ∈ l, 0 ≤ x ∧ x < M.n) → ∃ M', flushesM M l = (M', 0) ∧ M.To M' ∧ ∀ j t, M'.rd j t = M.rd j t
  | [], M, h, _ => ⟨M, rfl, ⟨rfl, rfl, h⟩, fun _ _ => rfl⟩
  | d :: r, M, h, hl => by
    obtain ⟨d0, d1⟩ := hl d (by simp)
    obtain ⟨d, rfl⟩ := Int.eq_ofNat_of_zero_le d0
    have hw := h.flush (i := d) (by omega)
    have hd : (M.d d).flush.dead = false := h.up d (by omega)
    obtain ⟨M', h1, h2, h3⟩ := flushes_good r (M.set d (M.d d).flush) (h.set hd) (fun x hx => hl x (by simp [hx]))
    refine ⟨M', ?_, ⟨h2.n, h2.sec.trans (RackM.sec_flush M d), h2.good⟩, fun j t => ?_⟩
    · show (match M.flush (d : Int) with | (M', k) => if k ≠ 0 then (M', k) else flushesM M' r) = _
      rw [hw]
      exact h1
    · rw [h3 j t]
      show (if j = d then (M.d d).flush else M.d j).read t = (M.d j).read t
      split
      · rename_i e
        rw [e, DskM.read_flush]
      · rfl
theorem RackM.To.trans {M M1 M2 : RackM} (h : M.To M1) (h2 : M1.To M2) : M.To M2 := ⟨h2.n.trans h.n, h2.sec.trans h.sec, h2.good⟩
end Go.Proofs.YtkdlofgfkfhofaaGreatDoor

/-
  Plain laws of frames: what Put makes is read back; what is good is what Put makes.
-/
namespace Go.Proofs.YtkdlofgfkfhofaaGreatDoor
open Go.RowKit CrcMath

theorem wrapN_smallF {n : Nat} (h : n < 9223372036854775808) : wrapN n = (n : Int) := if_pos h
theorem put_two (f : Frm) : f.put[2]? = some (UInt8.ofNat f.kind.toNat) := rfl
theorem put_three (f : Frm) : f.put[3]? = some (UInt8.ofNat f.slot.toNat) := rfl
theorem take_mid (p m q : List UInt8) (k n : Nat) (hp : p.length = k) (hm : m.length = n) : ((p ++ (m ++ q)).drop k).take n = m := by
  subst hp hm
  rw [List.drop_left, List.take_left]
theorem put_parts (f : Frm) (hl : f.data.length = 108) : (f.put.drop 4).take 4 = leB 4 f.stripe.toNat ∧ (f.put.drop 8).take 8 = leB 8 f.gen.toNat ∧ (f.put.drop 16).take 108 = f.data ∧ f.put.take 124 = f.head ∧ f.put.drop 124 = leB 4 (on 0#32 f.head).toNat := by
  have hh : f.head.length = 124 := by simp [Frm.head, leB_len, hl]
  refine ⟨?_, ?_, ?_, ?_, ?_⟩
  · have e : f.put = [83, 84, UInt8.ofNat f.kind.toNat, UInt8.ofNat f.slot.toNat] ++ (leB 4 f.stripe.toNat ++ (leB 8 f.gen.toNat ++ (f.data ++ leB 4 (on 0#32 f.head).toNat))) := by simp [Frm.put, Frm.head]
    rw [e]
    exact take_mid _ _ _ 4 4 rfl (leB_len _ _)
  · have e : f.put = ([83, 84, UInt8.ofNat f.kind.toNat, UInt8.ofNat f.slot.toNat] ++ leB 4 f.stripe.toNat) ++ (leB 8 f.gen.toNat ++ (f.data ++ leB 4 (on 0#32 f.head).toNat)) := by simp [Frm.put, Frm.head]
    rw [e]
    exact take_mid _ _ _ 8 8 (by simp [leB_len]) (leB_len _ _)
  · have e : f.put = ([83, 84, UInt8.ofNat f.kind.toNat, UInt8.ofNat f.slot.toNat] ++ leB 4 f.stripe.toNat ++ leB 8 f.gen.toNat) ++ (f.data ++ leB 4 (on 0#32 f.head).toNat) := by simp [Frm.put, Frm.head]
    rw [e]
    exact take_mid _ _ _ 16 108 (by simp [leB_len]) hl
  · show (f.head ++ _).take 124 = _
    rw [← hh, List.take_left]
  · show (f.head ++ _).drop 124 = _
    rw [← hh, List.drop_left]
theorem frmOf_put {f : Frm} (hl : f.data.length = 108) (hr : f.right = true) : frmOf f.put = f := by
  obtain ⟨⟨k0, k1⟩, ⟨s0, s1⟩, ⟨t0, t1⟩, ⟨g0, g1⟩⟩ := (right_iff f).1 hr
  obtain ⟨p1, p2, p3, _, _⟩ := put_parts f hl
  unfold frmOf
  rw [put_two, put_three, p1, p2, p3, leN_leB, leN_leB]
  have e1 : w8 ((some (UInt8.ofNat f.kind.toNat)).getD 0) = f.kind := w8_ofInt f.kind (by omega) (by omega)
  have e2 : w8 ((some (UInt8.ofNat f.slot.toNat)).getD 0) = f.slot := w8_ofInt f.slot (by omega) (by omega)
  have e3 : wrapN (f.stripe.toNat % 256 ^ 4) = f.stripe := by rw [wrapN_smallF (by omega)]; omega
  have e4 : wrapN (f.gen.toNat % 256 ^ 8) = f.gen := by rw [wrapN_smallF (by omega)]; omega
  rw [e1, e2, e3, e4]
theorem got_put {f : Frm} (hl : f.data.length = 108) (hr : f.right = true) : got f.put = true := by
  unfold got
  rw [frmOf_put hl hr, hr, put_len hl]
  simp
/-- the document's own test -/
def refGot (l : List UInt8) : Bool := decide (l.length = 128) && (decide (leN (l.take 2) = 21587) && (decide (((on 0#32 (l.take 124)).toNat : Nat) = leN (l.drop 124)) && (frmOf l).right))
end Go.Proofs.YtkdlofgfkfhofaaGreatDoor

/-
  Maps keyed by small numbers: how many entries they have; the two maps of a disk turned.
-/
namespace Go.Proofs.YtkdlofgfkfhofaaGreatDoor
open Go.RowKit Go.Maps Go.WideShapes

theorem rising_few : ∀ (l : List Nat) (lo n : Nat), l.Pairwise (· < ·) → (∀ x ∈ l, lo ≤ x ∧ x < n) → lo ≤ n → l.length + lo ≤ n
  | [], lo, n, _, _, h => by simpa using h
  | a :: r, lo, n, h1, h2, _ => by
    obtain ⟨p1, p2⟩ := List.pairwise_cons.1 h1
    obtain ⟨q1, q2⟩ := h2 a (by simp)
    have := rising_few r (a + 1) n p2 (fun x hx => ⟨p1 x hx, (h2 x (by simp [hx])).2⟩) (by omega)
    simp
    omega
def keyN (k : Lit) : Nat := match k with
  | .int _ z => z.toNat
  | _ => 0
theorem keys_few {H : Type} {D : DataW H} (hc : Canon D) {n : Nat} (hk : ∀ k, Maps.has D k = true → ∃ i : Nat, k = .int .i64 (i : Int) ∧ i < n) : Maps.size D ≤ n := by
  obtain ⟨es, rfl, h1, h2⟩ := hc
  have hm : ∀ p ∈ es, ∃ i : Nat, p.1 = .int .i64 (i : Int) ∧ i < n := fun p hp => hk p.1 (by
    rw [has_eq, List.any_eq_true]
    refine ⟨p, hp, ?_⟩
    have := h2 p hp
    cases e : p.1 with
    | bool a => simp [Lit.sameKey]
    | int q a => simp [Lit.sameKey]
    | string a => simp [Lit.sameKey]
    | _ => rw [e] at this; exact absurd this id)
  rw [Maps.size_eq]
  have h3 : (es.map fun p => keyN p.1).Pairwise (· < ·) := by
    rw [List.pairwise_map]
    refine h1.imp_of_mem fun {a b} ha hb hab => ?_
    obtain ⟨i, hi, _⟩ := hm a ha
    obtain ⟨j, hj, _⟩ := hm b hb
    rw [hi, hj] at hab ⊢
    have hab : (i : Int) < (j : Int) := of_decide_eq_true hab
    show (i : Int).toNat < (j : Int).toNat
    omega
  have := rising_few (es.map fun p => keyN p.1) 0 n h3 (fun x hx => by
    obtain ⟨p, hp, rfl⟩ := List.mem_map.1 hx
    obtain ⟨i, hi, hin⟩ := hm p hp
    rw [hi]
    show 0 ≤ (i : Int).toNat ∧ (i : Int).toNat < n
    omega) (Nat.zero_le _)
  simpa using this
theorem own_tight {H : Type} {k : TypeId} {R : Value → Option (DataW H × List MemPlace)} {w : World} {b n : Nat} {D : DataW H} (h : w.ownsMap Tryz.prog k R b n D) : w.ownsMap Tryz.prog k R b (Maps.size D) D := by
  obtain ⟨es, clock, h1, h2, h3, rfl⟩ := h
  exact ⟨es, clock, h1, h2, by rw [Maps.size_eq, length_read]; exact Nat.le_refl _, rfl⟩
theorem wf_int {z : Int} (h : -9223372036854775808 ≤ z) (h' : z ≤ 9223372036854775807) : (Lit.int .i64 z).wf = true := by
  simp only [Lit.wf, Bool.and_eq_true, decide_eq_true_eq]; exact ⟨h, h'⟩
theorem key_intd2 : Keyed Tryz.prog 3 := int_keyed Tryz.underlying3
theorem lit_ne {i j : Nat} (h : i ≠ j) : Lit.int .i64 (i : Int) ≠ Lit.int .i64 (j : Int) := fun e => h (by injection e with _ e; omega)
/-- what waits for a sector, laid -/
theorem WtAt.put {w' : World} {P : Nat → Prop} {D : DataW Value} {M : DskM} (h : WtAt w' P D M) (hD : Maps.IsMap D) {i : Nat} (hi : i < M.n) {v : Value} {b : List UInt8} (hv : OwnB w' 0 v b) (hp : ∀ g, v.ownBlock = some g → P g) : WtAt w' P (D.put (.int .i64 (i : Int)) (.held v)) (M.write i b) := by
  refine ⟨fun j c hj => ?_, fun j hj => ?_, fun k hk => ?_⟩
  · have hj : (if j = i then some b else M.wt j) = some c := hj
    by_cases e : j = i
    · subst e
      rw [if_pos rfl] at hj
      cases hj
      exact ⟨v, has_put_same hD (show WideAt.IsKeyLit (.int .i64 (j : Int)) from trivial) _, fun z => atKey_put_same hD (show WideAt.IsKeyLit (.int .i64 (j : Int)) from trivial) _ z, hv, hp⟩
    · rw [if_neg e] at hj
      obtain ⟨u, h1, h2, h3⟩ := h.yes j c hj
      exact ⟨u, by rw [has_put_other (lit_ne e)]; exact h1, fun z => by rw [atKey_put_other (lit_ne e)]; exact h2 z, h3⟩
  · have hj : (if j = i then some b else M.wt j) = none := hj
    by_cases e : j = i
    · rw [if_pos e] at hj
      cases hj
    · rw [if_neg e] at hj
      rw [has_put_other (lit_ne e)]
      exact h.no j hj
  · by_cases e : k = .int .i64 (i : Int)
    · exact ⟨i, e, hi⟩
    · rw [has_put_other e] at hk
      exact h.keys k hk
theorem WtAt.few {w : World} {P : Nat → Prop} {D : DataW Value} {M : DskM} (h : WtAt w P D M) (hc : Canon D) : Maps.size D ≤ M.n := keys_few hc h.keys
/-- the map of what waits, made anew -/
theorem WtAt.empty {w : World} {P : Nat → Prop} {M : DskM} (h : ∀ i, M.wt i = none) : WtAt w P (.map []) M :=
  ⟨fun i b hb => (by rw [h i] at hb; cases hb), fun _ _ => rfl, fun k hk => (by cases hk)⟩
end Go.Proofs.YtkdlofgfkfhofaaGreatDoor

/-
  Errors: a refusal's number in Faults; fault.Wrap.
-/
namespace Go.Proofs.YtkdlofgfkfhofaaGreatDoor
open Go.RowKit

/-- a refusal's number -/
def noV (k : Int) : Value := .iface 40 (.int .i64 k)
/-- a Fault -/
def fltV (op : ByteArray) (at_ : Int) (v : Value) : Value := .iface 154 (.agg #[.string op, .int .i64 at_, v])
/-- an error that holds the number k, so many Faults deep -/
inductive IsErr : Nat → Value → Int → Prop
  | no (k : Int) : IsErr 0 (noV k) k
  | flt (d : Nat) (op : ByteArray) (at_ : Int) (v : Value) (k : Int) : IsErr d v k → IsErr (d + 1) (fltV op at_ v) k
set_option maxRecDepth 100000 in
theorem wrap_err {d : Nat} {v : Value} {k : Int} (h : IsErr d v k) (op : ByteArray) (at_ : Int) (w : World) : Calls Tryz.prog 39 #[.string op, .int .i64 at_, v] w fun e w' => ∃ v', e = .returned v' ∧ IsErr (d + 1) v' k ∧ w' = w := by
  cases h with
  | no k =>
    have he : ∀ w, (binOp .eql 52 (.iface 40 (.int .i64 k)) .nilIface).run Tryz.prog w = .ok (.bool false) w := fun w => by kernel_rfl
    have hn : IsErr 0 (noV k) k := .no k
    unfold noV at hn ⊢
    go_enter Tryz.func39, Tryz.ntmps39
    go_wp2
    go_ret
    exact ⟨_, rfl, .flt 0 op at_ _ k hn, rfl⟩
  | flt d op' at' v k hv =>
    have he : ∀ w, (binOp .eql 52 (.iface 154 (.agg #[.string op', .int .i64 at', v])) .nilIface).run Tryz.prog w = .ok (.bool false) w := fun w => by kernel_rfl
    have hn : IsErr (d + 1) (fltV op' at' v) k := .flt d op' at' v k hv
    unfold fltV at hn ⊢
    go_enter Tryz.func39, Tryz.ntmps39
    go_wp2
    go_ret
    exact ⟨_, rfl, .flt (d + 1) op at_ _ k hn, rfl⟩
end Go.Proofs.YtkdlofgfkfhofaaGreatDoor

/-
  Errors of the store: a number or a loss, so many Faults deep; fault.Wrap.
-/
namespace Go.Proofs.YtkdlofgfkfhofaaGreatDoor
open Go.RowKit

/-- of a group fewer are good than are needed -/
def lossV (g h n : Int) : Value := .iface 222 (.agg #[.int .i64 g, .int .i64 h, .int .i64 n])
/-- an error whose kind is k, so many Faults deep -/
inductive EV : Nat → Value → Int → Prop
  | no (k : Int) : EV 0 (noV k) k
  | loss (g h n : Int) : EV 0 (lossV g h n) 6
  | flt (d : Nat) (op : ByteArray) (at_ : Int) (v : Value) (k : Int) : EV d v k → EV (d + 1) (fltV op at_ v) k
/-- an error of a kind, or none, where the kind is 0 -/
def ErrR (d : Nat) (v : Value) (k : Int) : Prop := (k = 0 ∧ v = .nilIface) ∨ (k ≠ 0 ∧ ∃ e, e ≤ d ∧ EV e v k)
theorem ErrR.nil (d : Nat) : ErrR d .nilIface 0 := .inl ⟨rfl, rfl⟩
theorem ErrR.no {k : Int} (h : k ≠ 0) (d : Nat) : ErrR d (noV k) k := .inr ⟨h, 0, Nat.zero_le _, .no k⟩
theorem ErrR.more {d d' : Nat} {v : Value} {k : Int} (h : ErrR d v k) (hd : d ≤ d') : ErrR d' v k := by
  rcases h with h | ⟨h1, e, h2, h3⟩
  · exact .inl h
  · exact .inr ⟨h1, e, Nat.le_trans h2 hd, h3⟩
theorem ErrR.of_nil {d : Nat} {v : Value} (h : ErrR d v 0) : v = .nilIface := by
  rcases h with ⟨_, h⟩ | ⟨h, _⟩
  · exact h
  · exact absurd rfl h
theorem EV.iface {d : Nat} {v : Value} {k : Int} (h : EV d v k) : ∃ t x, v = .iface t x := by
  cases h with
  | no => exact ⟨_, _, rfl⟩
  | loss => exact ⟨_, _, rfl⟩
  | flt => exact ⟨_, _, rfl⟩
theorem ErrR.iface {d : Nat} {v : Value} {k : Int} (h : ErrR d v k) (hk : k ≠ 0) : ∃ t x, v = .iface t x := by
  rcases h with ⟨h, _⟩ | ⟨_, e, _, h⟩
  · exact absurd h hk
  · exact h.iface
set_option maxRecDepth 100000 in
theorem wrap_nil (op : ByteArray) (at_ : Int) (w : World) : Calls Tryz.prog 39 #[.string op, .int .i64 at_, .nilIface] w fun e w' => e = .returned .nilIface ∧ w' = w := by
  go_enter Tryz.func39, Tryz.ntmps39
  go_wp2
  go_ret
  exact ⟨rfl, rfl⟩
set_option maxRecDepth 100000 in
theorem wrap_ev {d : Nat} {v : Value} {k : Int} (h : EV d v k) (op : ByteArray) (at_ : Int) (w : World) : Calls Tryz.prog 39 #[.string op, .int .i64 at_, v] w fun e w' => ∃ v', e = .returned v' ∧ EV (d + 1) v' k ∧ w' = w := by
  cases h with
  | no k =>
    have he : ∀ w, (binOp .eql 52 (.iface 40 (.int .i64 k)) .nilIface).run Tryz.prog w = .ok (.bool false) w := fun w => by kernel_rfl
    have hn : EV 0 (noV k) k := .no k
    unfold noV at hn ⊢
    go_enter Tryz.func39, Tryz.ntmps39
    go_wp2
    go_ret
    exact ⟨_, rfl, .flt _ op at_ _ k hn, rfl⟩
  | loss g h n =>
    have he : ∀ w, (binOp .eql 52 (.iface 222 (.agg #[.int .i64 g, .int .i64 h, .int .i64 n])) .nilIface).run Tryz.prog w = .ok (.bool false) w := fun w => by kernel_rfl
    have hn : EV 0 (lossV g h n) 6 := .loss g h n
    unfold lossV at hn ⊢
    go_enter Tryz.func39, Tryz.ntmps39
    go_wp2
    go_ret
    exact ⟨_, rfl, .flt _ op at_ _ 6 hn, rfl⟩
  | flt d2 op2 at2 v2 k h2 =>
    have he : ∀ w, (binOp .eql 52 (.iface 154 (.agg #[.string op2, .int .i64 at2, v2])) .nilIface).run Tryz.prog w = .ok (.bool false) w := fun w => by kernel_rfl
    have hn : EV (d2 + 1) (fltV op2 at2 v2) k := .flt d2 op2 at2 v2 k h2
    unfold fltV at hn ⊢
    go_enter Tryz.func39, Tryz.ntmps39
    go_wp2
    go_ret
    exact ⟨_, rfl, .flt _ op at_ _ k hn, rfl⟩
theorem wrapR {d : Nat} {v : Value} {k : Int} (h : ErrR d v k) (op : ByteArray) (at_ : Int) (w : World) : Calls Tryz.prog 39 #[.string op, .int .i64 at_, v] w fun e w' => ∃ v', e = .returned v' ∧ ErrR (d + 1) v' k ∧ w' = w := by
  rcases h with ⟨rfl, rfl⟩ | ⟨hk, e, hd, he⟩
  · exact (wrap_nil op at_ w).mono fun _ _ ⟨h1, h2⟩ => ⟨_, h1, .nil _, h2⟩
  · exact (wrap_ev he op at_ w).mono fun _ _ ⟨v', h1, h2, h3⟩ => ⟨v', h1, .inr ⟨hk, e + 1, by omega, h2⟩, h3⟩
end Go.Proofs.YtkdlofgfkfhofaaGreatDoor

/-
  disk: what is refused, Sectors, Dead, Read, Write.
-/
namespace Go.Proofs.YtkdlofgfkfhofaaGreatDoor
open Go.RowKit Go.Maps

/-- why something isn't done to a sector -/
def DskM.bad (M : DskM) (i : Int) (wrong : Bool) : Int := if M.dead = true then 5 else if wrong = true ∨ i < 0 ∨ (M.n : Int) ≤ i then 1 else 0
set_option maxRecDepth 100000 in
set_option maxHeartbeats 2000000 in
theorem dskRefused_any {P : Nat → Prop} {d : Nat} {M : DskM} {w : World} (h : DskAt w P d M) (op : ByteArray) (i : Int) (wrong : Bool) :
    Calls Tryz.prog 126 #[.pointer (some ⟨d, 0, none⟩), .string op, .int .i64 i, .bool wrong] w fun e w' => ∃ v, e = .returned v ∧ ErrR 1 v (M.bad i wrong) ∧ w' = w := by
  obtain ⟨lb, wb, rb, cap, C, D, hp⟩ := h
  have c0 : w.cell? ⟨d, 0, none⟩ = some (.slice (some ⟨lb, 0, none⟩) M.n cap) := hp.bk.cell 0
  have c3 : w.cell? ⟨d, 3, none⟩ = some (.bool M.dead) := hp.bk.cell 3
  have hn := hp.ok.few
  have H5 : Hid (∀ w, Calls Tryz.prog 39 #[.string op, .int .i64 i, .iface 40 (.int .i64 5)] w fun e w' => ∃ v', e = .returned v' ∧ ErrR (0 + 1) v' 5 ∧ w' = w) := fun w => wrapR (ErrR.no (by decide) 0) op i w
  have H1 : Hid (∀ w, Calls Tryz.prog 39 #[.string op, .int .i64 i, .iface 40 (.int .i64 1)] w fun e w' => ∃ v', e = .returned v' ∧ ErrR (0 + 1) v' 1 ∧ w' = w) := fun w => wrapR (ErrR.no (by decide) 0) op i w
  by_cases hd : M.dead = true
  · have hb : M.bad i wrong = 5 := by unfold DskM.bad; rw [if_pos hd]
    rw [hd] at c3
    have HB := Lib.hid hb
    clear hp hd hb hn
    go_enter Tryz.func126, Tryz.ntmps126
    go_wp2_with (first | (go_at_call 39; with_reducible refine (H5.out _).mono ?_; rintro er w4 ⟨v4, rfl, he4, rfl⟩) | fail)
    go_ret
    exact ⟨_, rfl, by rw [HB.out]; exact he4, rfl⟩
  · have hd : M.dead = false := by simpa using hd
    rw [hd] at c3
    by_cases hw : wrong = true ∨ i < 0 ∨ (M.n : Int) ≤ i
    · have hb : M.bad i wrong = 1 := by unfold DskM.bad; rw [if_neg (by simp [hd]), if_pos hw]
      have hcase : wrong = true ∨ (wrong = false ∧ i < 0) ∨ (wrong = false ∧ ¬ i < 0 ∧ (M.n : Int) ≤ i) := by
        cases wrong
        · rcases hw with hw | hw | hw
          · cases hw
          · exact .inr (.inl ⟨rfl, hw⟩)
          · by_cases hi : i < 0
            · exact .inr (.inl ⟨rfl, hi⟩)
            · exact .inr (.inr ⟨rfl, hi, hw⟩)
        · exact .inl rfl
      have HB := Lib.hid hb
      clear hp hd hb hw hn
      rcases hcase with rfl | ⟨rfl, h1⟩ | ⟨rfl, h1, h2⟩
      all_goals
        go_enter Tryz.func126, Tryz.ntmps126
        go_wp2_with (first | (go_at_call 39; with_reducible refine (H1.out _).mono ?_; rintro er w4 ⟨v4, rfl, he4, rfl⟩) | fail)
        go_ret
        exact ⟨_, rfl, by rw [HB.out]; exact he4, rfl⟩
    · have hb : M.bad i wrong = 0 := by unfold DskM.bad; rw [if_neg (by simp [hd]), if_neg hw]
      obtain ⟨hw1, hw2⟩ := not_or.1 hw
      obtain ⟨h1, h2⟩ := not_or.1 hw2
      have hw3 : wrong = false := by simpa using hw1
      subst hw3
      have HB := Lib.hid hb
      clear hp hd hb hw hw1 hw2 hn
      go_enter Tryz.func126, Tryz.ntmps126
      go_wp2_with fail
      go_ret
      exact ⟨_, rfl, by rw [HB.out]; exact .nil 1, rfl⟩
set_option maxRecDepth 100000 in
theorem dskSectors_any {P : Nat → Prop} {d : Nat} {M : DskM} {w : World} (h : DskAt w P d M) :
    Calls Tryz.prog 140 #[.pointer (some ⟨d, 0, none⟩)] w fun e w' => e = .returned (.int .i64 M.n) ∧ w' = w := by
  obtain ⟨lb, wb, rb, cap, C, D, hp⟩ := h
  have c0 : w.cell? ⟨d, 0, none⟩ = some (.slice (some ⟨lb, 0, none⟩) M.n cap) := hp.bk.cell 0
  clear hp
  go_enter Tryz.func140, Tryz.ntmps140
  go_wp2
  go_ret
  exact ⟨rfl, rfl⟩
set_option maxRecDepth 100000 in
theorem dskDead_any {P : Nat → Prop} {d : Nat} {M : DskM} {w : World} (h : DskAt w P d M) :
    Calls Tryz.prog 138 #[.pointer (some ⟨d, 0, none⟩)] w fun e w' => e = .returned (.bool M.dead) ∧ w' = w := by
  obtain ⟨lb, wb, rb, cap, C, D, hp⟩ := h
  have c3 : w.cell? ⟨d, 3, none⟩ = some (.bool M.dead) := hp.bk.cell 3
  clear hp
  go_enter Tryz.func138, Tryz.ntmps138
  go_wp2
  go_ret
  exact ⟨rfl, rfl⟩
set_option maxRecDepth 100000 in
set_option maxHeartbeats 1000000 in
/-- slices.Clone: bytes of the caller's own -/
theorem clone_own (A : Option Addr) (n c : Nat) (l : List UInt8) (w : World) (hr : RdB w A n c l) (hsmall : n ≤ 1000000) :
    Calls Tryz.prog 44 #[.slice A n c] w fun e w' => ∃ v, e = .returned v ∧ OwnB w' w.heap.size v l ∧ Below w.heap.size w w' := by
  have qT : ∀ (w : World) (a : Option Addr) (n c n' c' : Nat), (binOp .eql 26 (.slice a n c) (.slice none n' c')).run Tryz.prog w = .ok (.bool a.isNone) w := fun w a n c n' c' => Lib.run_eql_slice_nil w _ _ a n c n' c' Tryz.underlying26
  rcases A with _ | ad
  · obtain rfl := hr.none_len
    have hl : l = [] := List.eq_nil_of_length_eq_zero hr.len
    have Hl := Lib.hid hl
    clear hl hr
    go_enter Tryz.func44, Tryz.ntmps44
    go_wp2
    go_ret
    exact ⟨_, rfl, by rw [Hl.out]; exact OwnB.nil _ _, Below.refl _ _⟩
  · have Hr := Lib.hid hr
    have hn : n ≤ 9223372036854775807 := Nat.le_trans hr.cap hr.big
    clear hr
    go_enter Tryz.func44, Tryz.ntmps44
    go_wp2_with (at_builtin; refine wpList_append_bytes rfl (.tmp 5) (.tmp 6) rfl w.heap.size w _ [] rfl (OwnB.empty w _ (Nat.le_refl _)) (some ad) n c l rfl (Hr.out.ext ((Below.refl _ _).alloc (Nat.le_refl _) _)) (by simp; omega) ((Below.refl _ _).alloc (Nat.le_refl _) _) (by simp) n (by simp) ?_; intro A2 c2 w2 hown2 hb2 hB2)
    go_ret
    refine ⟨_, rfl, ?_, hb2⟩
    have h := hown2.out
    rwa [List.nil_append] at h
end Go.Proofs.YtkdlofgfkfhofaaGreatDoor

/-
  A store into a map of the call's own, in a region that draws its order.
-/
namespace Go.Proofs.YtkdlofgfkfhofaaGreatDoor
open Go.RowKit Go.Maps

/-- an append onto a row of the call's own, in a region that draws its order -/
theorem step_append_B {P : Program} {ops : Array Oper} {o : Oper} {a : Act} {w : World} {K : Act → World → Prop} {Q : Exit → Act → World → Prop} {E : Prop} (B : Nat) (hgd : o.guard = none) (s x : Operand) (t : TypeId)
    (ho : o.op = .call { callee := .builtin .append, args := #[s, x], argTypes := #[t, t] })
    (e : TypeId) (i : TypeInfo) (z : Value) (size bytes : Nat) (ht : P.underlying t = some (.slice e)) (hi : P.info? e = some i) (hz : i.zero = some z)
    (hsize : i.size = size) (hby : i.bytes = bytes) (hzs : z.cells.size = size) (hsz : 0 < size)
    (v : Value) (n : Nat) (xs : List Value) (hs : a.eval s = v) (hown : w.ownsRow B e size v n xs)
    (ad : Addr) (m c : Nat) (news : List Value) (hx : a.eval x = .slice (some ad) m c) (hl : news.length = m * size) (hnews : ∀ j u, news[j]? = some u → w.cell? (ad.add j) = some u) (h1 : ∀ u ∈ news, u.oneCell' = true)
    (h63 : n + m ≤ maxLen) (hbytes : (n + m) * bytes ≤ 140737488355328) (hB : B ≤ w.heap.size) (N : Nat) (hN : N = n + m)
    (h : ∀ A' c' w', Hid (w'.ownsRow B e size (.slice A' N c') N (xs ++ news)) → Hid (w.grownBy w' v.ownBlock) → Hid ((Value.slice A' N c').ownBlock = v.ownBlock ∨ (Value.slice A' N c').ownBlock = some w.heap.size) → K (a.put o.dst (.slice A' N c')) w') :
    if Region.wanted o (yielded ops a.tmps) = true then Oper.wp P o a w K Q else E := by
  have hw : Region.wanted o (yielded ops a.tmps) = true := by simp [Region.wanted, hgd]
  rw [if_pos hw]
  subst hN
  obtain ⟨v', w', hrun, h2, h3, _, h5⟩ := run_append_own_at (P := P) w B t o.type e i z size bytes ht hi hz hsize hby hzs hsz v n xs hown ad m c news hl hnews h1 h63 hbytes hB
  obtain ⟨A', c', rfl⟩ : ∃ A' c', v' = .slice A' (n + m) c' := by
    rcases h2.2 with ⟨rfl, h0⟩ | ⟨g, cap, cur, rfl, _⟩
    · exact ⟨none, 0, by rw [h0]⟩
    · exact ⟨_, _, rfl⟩
  unfold Oper.wp execOp
  simp only [ho, resolve, invoke, builtin, Sem.run_bind, Sem.run_pure, Result.andThen_ok, List.map_toArray, List.map_cons, List.map_nil, hs, hx, hrun]
  exact h A' c' w' h2 h3 h5
end Go.Proofs.YtkdlofgfkfhofaaGreatDoor
