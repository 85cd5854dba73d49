import Derived.Test.YtjodiieeocaipaaGreatDoorWithin
import Derived.Laws.IdiomStrings
import Derived.Test.YtjodiieeocaipaaGreatDoorECurs
import Derived.Test.YtjodiieeocaipaaGreatDoorSMarkz
import Derived.Deep.RegionHeld3
import Derived.Test.YtjodiieeocaipaaGreatDoorOpen
import Derived.Deep.Slices
/-
  stavekeep: Values of numbers.
-/
namespace Go.Proofs.YtjodiieeocaipaaGreatDoor
open Go.RowKit Go.Maps

def shB (seed : Int) (k : Nat) : UInt8 := UInt8.ofNat ((seed / 2 ^ k) % 256).toNat
def digB (seed : Int) : UInt8 := UInt8.ofNat (48 + within seed 0 9).toNat
/-- a record's bytes, of which j are drawn from the number -/
def valB (seed : Int) (i j : Nat) : List UInt8 := [digB seed, UInt8.ofNat (65 + i)] ++ (List.range j).map (shB seed)
def valW (seed : Int) (i : Nat) : ByteArray := ⟨(valB seed i (within seed 0 5).toNat).toArray⟩
def valsM (n : Nat) (seed : Int) : List ByteArray := (List.range n).map (valW seed)
theorem shB_w (seed : Int) (k : Nat) : w8 (shB seed k) = (seed / 2 ^ k) % 256 := by
  unfold w8 shB
  rw [UInt8.toNat_ofNat']
  omega
theorem valB_len (seed : Int) (i j : Nat) : (valB seed i j).length = 2 + j := by simp [valB]; omega
theorem valB_succ (seed : Int) (i j : Nat) : valB seed i (j + 1) = valB seed i j ++ [shB seed j] := by
  unfold valB
  rw [List.range_succ, List.map_append, List.append_assoc]
  rfl
theorem valsM_succ (seed : Int) (i : Nat) : valsM (i + 1) seed = valsM i seed ++ [valW seed i] := by
  unfold valsM
  rw [List.range_succ, List.map_append]
  rfl
theorem valsM_len (n : Nat) (seed : Int) : (valsM n seed).length = n := by simp [valsM]
/-- bytes laid by a literal -/
theorem OwnB.lit {w : World} (a b : Int) (x y : UInt8) (ha : a = w8 x) (hb : b = w8 y) : OwnB (w.alloc (.cells #[.int .u8 a, .int .u8 b] 5)) w.heap.size (.slice (some ⟨w.heap.size, 0, none⟩) 2 2) [x, y] := by
  subst ha hb
  exact ⟨rfl, .inr ⟨w.heap.size, 2, _, rfl, Nat.le_refl _, heap_alloc_new w _, Nat.le_refl _, by decide, rfl, rfl⟩⟩
theorem RdB.lit {w : World} (a : Int) (x : UInt8) (ha : a = w8 x) : RdB (w.alloc (.cells #[.int .u8 a] 5)) (some ⟨w.heap.size, 0, none⟩) 1 1 [x] := by
  subst ha
  refine ⟨rfl, Nat.le_refl _, by decide, fun k u hu => ⟨_, rfl, by simp, ?_⟩⟩
  rw [Addr.add_none, cell_of_row _ _ _ _ _ _ (heap_alloc_new w _), ← hu]
  rw [Nat.zero_add]
  match k with
  | 0 => rfl
  | k + 1 => rfl

set_option maxRecDepth 100000 in
set_option maxHeartbeats 1000000 in
theorem kvals_any (n : Nat) (hn : n ≤ 3) (seed : Int) (w : World) (h0 : -9223372036854775808 ≤ seed) (h1 : seed ≤ 9223372036854775807) :
    Calls Tryz.prog 31 #[.int .i64 n, .int .i64 seed] w fun e w' => ∃ A c, e = .returned (.slice A n c) ∧ RdT w' A n c (valsM n seed) ∧ (∀ ad, A = some ad → w.heap.size ≤ ad.block) ∧ Below w.heap.size w w' := by
  obtain ⟨ii, hi0, hz0, hs0, hb0⟩ := info_parts info_s
  have HI := Lib.hid hi0
  have HZ := Lib.hid hz0
  have HS := Lib.hid hs0
  have HB := Lib.hid hb0
  have h9 := within_in seed 0 9 (by omega)
  have h5 := within_in seed 0 5 (by omega)
  obtain ⟨d, hd⟩ : ∃ d, within seed 0 9 = d := ⟨_, rfl⟩
  obtain ⟨m, hm⟩ : ∃ m : Nat, within seed 0 5 = m := ⟨(within seed 0 5).toNat, by omega⟩
  have HW9 : Hid (∀ w, Calls Tryz.prog 14 #[.int .i64 seed, .int .i64 0, .int .i64 9] w fun e w' => e = .returned (.int .i64 d) ∧ w = w') := fun w => by
    rw [← hd]
    exact within_any seed 0 9 w (by omega) (by omega) (by omega) h0 h1
  have HW5 : Hid (∀ w, Calls Tryz.prog 14 #[.int .i64 seed, .int .i64 0, .int .i64 5] w fun e w' => e = .returned (.int .i64 m) ∧ w = w') := fun w => by
    rw [← hm]
    exact within_any seed 0 5 w (by omega) (by omega) (by omega) h0 h1
  have hdw : 48 + d = w8 (digB seed) := by
    unfold w8 digB
    rw [hd, UInt8.toNat_ofNat']
    omega
  rw [hd] at h9
  rw [hm] at h5
  have HD := Lib.hid hdw
  have HM := Lib.hid hm
  clear hi0 hz0 hs0 hb0 hd hm hdw
  go_enter Tryz.func31, Tryz.ntmps31
  go_wp2_with fail
  go_loopw [5, 6] (fun o i wr => ∃ (k : Nat) (A3 : Option Addr) (c3 : Nat), k ≤ n ∧ i = .int .i64 k ∧ o = .slice A3 k c3 ∧ Hid (OwnT wr w.heap.size A3 k c3 (valsM k seed)) ∧ Hid (Below w.heap.size w wr)) (fun _ i _ => n - (intOf i).toNat)
  case atStart => exact ⟨0, none, 0, Nat.zero_le _, rfl, rfl, World.ownsRow_nil _ _ _ _, Below.refl _ _⟩
  case round =>
    obtain ⟨k, A3, c3, hk, rfl, rfl, hOwn, hBel⟩ := hrel
    obtain ⟨y, hy⟩ : ∃ y, y = wr := ⟨_, rfl⟩
    subst hy
    by_cases hlt : k < n
    · have hi : (k : Int) < n := by omega
      have hd1 := h9.1
      have hd2 := h9.2
      have e1 : (48 + d) % 256 = 48 + d := by omega
      have e2 : (65 + (k : Int)) % 256 = 65 + k := by omega
      have hk65 : (65 + (k : Int)) = w8 (UInt8.ofNat (65 + k)) := by
        unfold w8
        rw [UInt8.toNat_ofNat']
        omega
      have HK65 := Lib.hid hk65
      clear hk65
      go_wp2_with (first | (go_at_call 14; with_reducible refine (HW9.out _).mono ?_; rintro er w1 ⟨rfl, rfl⟩) | fail)
      go_loopw [7, 8] (fun b i wi => ∃ (j : Nat) (A4 : Option Addr) (c4 : Nat), j ≤ m ∧ i = .int .i64 j ∧ b = .slice A4 (2 + j) c4 ∧ Hid (OwnB wi y.heap.size (.slice A4 (2 + j) c4) (valB seed k j)) ∧ Hid (Below y.heap.size y wi)) (fun _ i _ => m - (intOf i).toNat)
      case atStart => exact ⟨0, _, _, Nat.zero_le _, rfl, rfl, OwnB.lit _ _ _ _ HD.out HK65.out, below_new y _⟩
      case round =>
        obtain ⟨j, A4, c4, hj, rfl, rfl, hOb, hBi⟩ := hrel
        by_cases hjm : j < m
        · have hi2 : (j : Int) < m := by omega
          have hsh := shB_w seed j
          have HSh := Lib.hid hsh
          clear hsh
          go_wp2_with (first | (go_at_call 14; with_reducible refine (HW5.out _).mono ?_; rintro er w1 ⟨rfl, rfl⟩) | (at_builtin; go_loud (refine wpList_append_bytes rfl (.tmp 28) (.tmp 33) rfl y.heap.size y _ (valB seed k j) rfl (World.ownsRow.alloc hOb.out _) (some ⟨wr.heap.size, 0, none⟩) 1 1 [shB seed j] rfl (RdB.lit _ _ HSh.out.symm) (by rw [valB_len]; omega) (hBi.out.alloc hBi.out.size _) (Nat.le_trans hBi.out.size (by simp)) (2 + (j + 1)) (by rw [valB_len]; omega) ?_; intro A5 c5 w5 ho5 hb5 hs5)) | fail)
          refine ⟨⟨j + 1, A5, c5, by omega, by go_num, rfl, ?_, hb5⟩, by simp [intOf]; omega⟩
          rw [valB_succ]
          exact ho5
        · obtain rfl : j = m := by omega
          have hi2 : ¬ (j : Int) < j := by omega
          have hrd := hOb.out.rd
          obtain ⟨ad, rfl⟩ : ∃ ad, A4 = some ad := by
            obtain ⟨ad, e, _⟩ := Rd.cell hrd 0 _ (by unfold valB bvs; rfl)
            exact ⟨ad, e⟩
          have hcv : (convert 54 9 (.slice (some ad) (2 + j) c4)).run Tryz.prog wr = .ok (.string (valW seed k)) wr := by
            have h := run_convert_bytes_back (P := Tryz.prog) wr 54 9 5 ad c4 (valB seed k j) Tryz.underlying54 Tryz.underlying5 Tryz.underlying9 (fun i hi => by
              obtain ⟨ad', e, _, hc⟩ := Rd.cell hrd i (.int .u8 (w8 (valB seed k j)[i])) (by rw [bvs, List.getElem?_map, List.getElem?_eq_getElem hi]; rfl)
              obtain rfl := Option.some.inj e
              exact hc)
            rw [valB_len] at h
            rw [h]
            unfold valW
            rw [show (within seed 0 5).toNat = j from by rw [HM.out]; exact Int.toNat_natCast j]
          clear hrd
          have HOw : Hid (OwnT wr w.heap.size A3 k c3 (valsM k seed)) := World.ownsRow.kept hOwn.out (grown_of_below hBi.out) (Classical.em _)
          go_wp2_with (first | (go_at_call 14; with_reducible refine (HW5.out _).mono ?_; rintro er w1 ⟨rfl, rfl⟩) | (at_builtin; go_loud (refine wpList_append_gen rfl (.tmp 35) (.tmp 38) 30 rfl 9 ii _ 1 16 Tryz.underlying30 HI.out HZ.out HS.out HB.out rfl (by omega) w.heap.size w _ k ((valsM k seed).map Value.string) rfl (World.ownsRow.alloc HOw.out _) ⟨wr.heap.size, 0, none⟩ 1 1 [.string (valW seed k)] rfl rfl (cells_newm wr _ (0, 0) _ _ rfl _ rfl) (one_all rfl) (by unfold maxLen; omega) (by omega) (hBel.out.trans (below_le hBel.out.size (hBi.out.alloc hBi.out.size _))) (Nat.le_trans hBel.out.size (Nat.le_trans hBi.out.size (by simp))) ?_; intro A6 c6 w6 ho6 hg6 hx6 hb6 hs6)) | fail)
          refine ⟨⟨k + 1, A6, c6, by omega, by go_num, rfl, ?_, hb6⟩, by simp [intOf]; omega⟩
          have := ho6.out
          rw [valsM_succ]
          unfold OwnT
          rw [List.map_append]
          exact this
    · obtain rfl : k = n := by omega
      have hi : ¬ (k : Int) < k := by omega
      go_wp2_with fail
      go_ret
      refine ⟨_, _, rfl, hOwn.out.reads, fun ad e => ?_, hBel.out⟩
      subst e
      exact (World.ownsRow.lt hOwn.out ad.block (by simp [Value.ownBlock])).1
end Go.Proofs.YtjodiieeocaipaaGreatDoor

/-
  stavekeep: an Entry of numbers.
-/
namespace Go.Proofs.YtjodiieeocaipaaGreatDoor
open Go.RowKit Go.Maps
attribute [local go_sem ↓] ldE_eq stE_eq stB_eq

/-- the numbers of which an entry is made -/
structure Dd where
  k : Int
  t : Int
  g : Int
  p : Int
  n : Int
  b : Int
  q : Int
def Dd.cells (d : Dd) : Array Value := #[.int .i64 d.k, .int .i64 d.t, .int .i64 d.g, .int .i64 d.p, .int .i64 d.n, .int .i64 d.b, .int .i64 d.q]
structure Dd.Ok (d : Dd) : Prop where
  k : -9223372036854775808 ≤ d.k ∧ d.k ≤ 9223372036854775807
  t : -9223372036854775808 ≤ d.t ∧ d.t ≤ 9223372036854775807
  g : -9223372036854775808 ≤ d.g ∧ d.g ≤ 9223372036854775807
  p : -9223372036854775808 ≤ d.p ∧ d.p ≤ 9223372036854775807
  n : -9223372036854775808 ≤ d.n ∧ d.n ≤ 9223372036854775807
  b : -9223372036854775808 ≤ d.b ∧ d.b ≤ 9223372036854775807
  q : -9223372036854775808 ≤ d.q ∧ d.q ≤ 9223372036854775807
def prodOf (z : Int) : Int := if z < 8 then 1 + z / 4 else 0
def seqOf (z : Int) : Int := if z < 8 then z % 4 else 0
def entOf (d : Dd) : Ent :=
  if within d.k 0 9 = 0 then ⟨1, wd (wn d.t), nul, 0, within d.p 1 3, within d.n 0 3 * 100, 0, noB⟩
  else if within d.k 0 9 = 1 then (if within d.n 0 2 = 0 then ⟨2, wd (wn d.t), nul, 0, 0, 0, 0, noB⟩ else ⟨1, wd (wn d.t), nul, 0, 2, 0, 0, noB⟩)
  else if within d.k 0 9 = 2 then ⟨4, wd (wn d.t), wd (wn d.g), within d.p 0 2, 0, 0, within d.n 0 320, noB⟩
  else if within d.k 0 9 = 3 then ⟨5, wd (wn d.t), nul, within d.p 0 2, 0, 0, within d.n 0 320, noB⟩
  else ⟨3, wd (wn d.t), nul, within d.p 0 2, 0, 0, 0, ⟨within d.n 0 50, prodOf (within d.q 0 11), seqOf (within d.q 0 11), valsM (within d.b 1 3).toNat d.n⟩⟩
theorem entOf_topic (d : Dd) : (entOf d).topic = wd (wn d.t) := by
  unfold entOf
  split
  · rfl
  · split
    · split <;> rfl
    · split
      · rfl
      · split <;> rfl
def zeroE : Array Value := #[.int .i64 0, .string ⟨#[]⟩, .string ⟨#[]⟩, .int .i64 0, .int .i64 0, .int .i64 0, .int .i64 0, .int .i64 0, .int .i64 0, .int .i64 0, .slice none 0 0]
/-- what lies while Entry turns: the numbers, the result's place, the entry begun -/
structure EnW (w W : World) (d : Dd) (g : Nat) (c : Array Value) : Prop where
  below : Below w.heap.size w W
  num : Bk W w.heap.size 43 d.cells
  res : ∃ old, Bk W (w.heap.size + 1) 34 old ∧ old.size = 11
  ent : Bk W g 34 c
  far : w.heap.size + 2 ≤ g
theorem EnW.ext {w W W' : World} {d : Dd} {g : Nat} {c : Array Value} (h : EnW w W d g c) (hb : Below W.heap.size W W') : EnW w W' d g c := by
  obtain ⟨old, h1, h2⟩ := h.res
  exact ⟨h.below.trans (below_le h.below.size hb), h.num.ext hb, ⟨old, h1.ext hb, h2⟩, h.ent.ext hb, h.far⟩
theorem EnW.drew1 {w W : World} {d : Dd} {g : Nat} {c : Array Value} (h : EnW w W d g c) : EnW w W.drew d g c := h.ext (below_drew1 (Below.refl _ _))
theorem EnW.row2 {w W : World} {d : Dd} {g : Nat} {c : Array Value} (h : EnW w W d g c) (r : Array Value) (hr : r.size = 11) : EnW w (W.setRow (w.heap.size + 1) r) d g c ∧ Bk (W.setRow (w.heap.size + 1) r) (w.heap.size + 1) 34 r := by
  obtain ⟨old, h1, h2⟩ := h.res
  have hf := h.far
  exact ⟨⟨below_row h.below h.below.size (by omega) r, h.num.row_far r (by omega), ⟨r, h1.row r, hr⟩, h.ent.row_far r (by omega), h.far⟩, h1.row r⟩
theorem EnW.st {w W : World} {d : Dd} {g : Nat} {c : Array Value} (h : EnW w W d g c) (k : Int) (t s : ByteArray) (p1 p2 p3 p4 p5 p6 p7 : Int) (A : Option Addr) (n cc : Nat) :
    (stE (.pointer (some ⟨w.heap.size + 1, 0, none⟩)) (.agg #[.int .i64 k, .string t, .string s, .int .i64 p1, .int .i64 p2, .int .i64 p3, .int .i64 p4, .int .i64 p5, .int .i64 p6, .int .i64 p7, .slice A n cc])).run Tryz.prog W = .ok () (W.setRow (w.heap.size + 1) #[.int .i64 k, .string t, .string s, .int .i64 p1, .int .i64 p2, .int .i64 p3, .int .i64 p4, .int .i64 p5, .int .i64 p6, .int .i64 p7, .slice A n cc]) := by
  obtain ⟨old, h1, h2⟩ := h.res
  exact stE_row h1 h2 k t s p1 p2 p3 p4 p5 p6 p7 A n cc
theorem EnW.put {w W : World} {d : Dd} {g : Nat} {c : Array Value} (h : EnW w W d g c) (j : Nat) (u : Value) : EnW w (W.setCell ⟨g, j, none⟩ u) d g (c.setIfInBounds j u) := by
  obtain ⟨old, h1, h2⟩ := h.res
  have hf := h.far
  exact ⟨below_grown h.below h.below.size (grown_set W ⟨g, j, none⟩ u) (by show w.heap.size ≤ g; omega), h.num.far (p := ⟨g, j, none⟩) (by show w.heap.size ≠ g; omega) u, ⟨old, h1.far (p := ⟨g, j, none⟩) (by show w.heap.size + 1 ≠ g; omega) u, h2⟩, h.ent.put j u, h.far⟩

/-- .. whatever its batch -/
def EnB (w W : World) (d : Dd) (g : Nat) : Prop := ∃ x7 x8 x9 x10, EnW w W d g #[.int .i64 3, .string (wd (wn d.t)), .string ⟨#[]⟩, .int .i64 (within d.p 0 2), .int .i64 0, .int .i64 0, .int .i64 0, x7, x8, x9, x10]
theorem EnB.ext {w W W' : World} {d : Dd} {g : Nat} (h : EnB w W d g) (hb : Below W.heap.size W W') : EnB w W' d g := by
  obtain ⟨x7, x8, x9, x10, h⟩ := h
  exact ⟨x7, x8, x9, x10, h.ext hb⟩
theorem EnB.num {w W : World} {d : Dd} {g : Nat} (h : EnB w W d g) : Bk W w.heap.size 43 d.cells := by
  obtain ⟨x7, x8, x9, x10, h⟩ := h
  exact h.num
theorem EnB.put {w W : World} {d : Dd} {g : Nat} (h : EnB w W d g) (a b c e : Value) : EnW w (W.setCells g 7 [a, b, c, e]) d g #[.int .i64 3, .string (wd (wn d.t)), .string ⟨#[]⟩, .int .i64 (within d.p 0 2), .int .i64 0, .int .i64 0, .int .i64 0, a, b, c, e] := by
  obtain ⟨x7, x8, x9, x10, h⟩ := h
  exact (((h.put 7 a).put 8 b).put 9 c).put 10 e
theorem EnB.st {w W : World} {d : Dd} {g : Nat} (h : EnB w W d g) (t : Int) (A : Option Addr) (n c : Nat) :
    (stB (.pointer (some ⟨g, 7, none⟩)) (.agg #[.int .i64 t, .int .i64 0, .int .i64 0, .slice A n c])).run Tryz.prog W = .ok () (W.setCells g 7 [.int .i64 t, .int .i64 0, .int .i64 0, .slice A n c]) := by
  obtain ⟨x7, x8, x9, x10, h⟩ := h
  unfold stB
  refine run_storeAt_mid W g 7 32 #[.int .i64 t, .int .i64 0, .int .i64 0, .slice A n c] (fun j hj => ⟨?_, h.ent.thaw _⟩) size_b (all_oneCell_toArray (one_all rfl))
  rw [h.ent.cell]
  have hj : j < 4 := hj
  match j, hj with
  | 0, _ => rfl
  | 1, _ => rfl
  | 2, _ => rfl
  | 3, _ => rfl
theorem grown_cells4 (w : World) (g : Nat) (a b c e : Value) : w.grownBy (w.setCells g 7 [a, b, c, e]) (some g) :=
  (((grown_set w ⟨g, 7, none⟩ a).trans (grown_set _ ⟨g, 8, none⟩ b)).trans (grown_set _ ⟨g, 9, none⟩ c)).trans (grown_set _ ⟨g, 10, none⟩ e)
/-- the entry is an agg of this shape -/
def EntR (w : World) (d : Dd) (er : Ending) (w' : World) : Prop := ∃ (A : Option Addr) (n c : Nat), er = .returned (.agg #[.int .i64 (entOf d).kind, .string (entOf d).topic, .string (entOf d).group, .int .i64 (entOf d).part, .int .i64 (entOf d).parts, .int .i64 (entOf d).first, .int .i64 (entOf d).off, .int .i64 (entOf d).bat.time, .int .i64 (entOf d).bat.prod, .int .i64 (entOf d).bat.seq, .slice A n c]) ∧ RdT w' A n c (entOf d).bat.vals ∧ Below w.heap.size w w'
set_option maxRecDepth 100000 in
set_option maxHeartbeats 2000000 in
theorem kentry_any (d : Dd) (hd : d.Ok) (w : World) :
    Calls Tryz.prog 15 #[.agg d.cells] w fun er w' => EntR w d er w' := by
  have HD := Lib.hid hd
  have hb0 : Below w.heap.size w ((w.alloc (.cells d.cells 43)).alloc (.cells zeroE 34)) := ((Below.refl w.heap.size w).alloc (Nat.le_refl _) _).alloc (by simp) _
  have hk0 : Bk ((w.alloc (.cells d.cells 43)).alloc (.cells zeroE 34)) w.heap.size 43 d.cells := (Bk.made w _ _).alloc _
  have hk1 : Bk ((w.alloc (.cells d.cells 43)).alloc (.cells zeroE 34)) (w.heap.size + 1) 34 zeroE := Bk.made_at _ _ _ _ (by simp)
  have HB0 := Lib.hid hb0
  have HK0 := Lib.hid hk0
  have HK1 := Lib.hid hk1
  have HS0 : Hid (((w.alloc (.cells d.cells 43)).alloc (.cells zeroE 34)).heap.size = w.heap.size + 2) := by simp [Hid]
  unfold Dd.cells zeroE at HB0 HK0 HK1 HS0
  clear hd hb0 hk0 hk1
  go_enter Tryz.func15, Tryz.ntmps15
  unfold Dd.cells
  go_upto_region 1 with fail
  generalize (w.alloc (.cells #[.int .i64 d.k, .int .i64 d.t, .int .i64 d.g, .int .i64 d.p, .int .i64 d.n, .int .i64 d.b, .int .i64 d.q] 43)).alloc (.cells #[.int .i64 0, .string ⟨#[]⟩, .string ⟨#[]⟩, .int .i64 0, .int .i64 0, .int .i64 0, .int .i64 0, .int .i64 0, .int .i64 0, .int .i64 0, .slice none 0 0] 34) = W at HB0 HK0 HK1 HS0 ⊢
  have c1 : W.cell? ⟨w.heap.size, 1, none⟩ = some (.int .i64 d.t) := HK0.out.cell 1
  have HWt := Lib.hid (kword_any d.t W HD.out.t.1 HD.out.t.2)
  go_wp2_with fail
  with_reducible refine HWt.out.mono ?_
  rintro er w1 ⟨rfl, hb1⟩
  have hbn := below_new w1 (.cells #[.int .i64 0, .string ⟨#[]⟩, .string ⟨#[]⟩, .int .i64 0, .int .i64 0, .int .i64 0, .int .i64 0, .int .i64 0, .int .i64 0, .int .i64 0, .slice none 0 0] 34)
  have hkn := Bk.made w1 34 #[.int .i64 0, .string ⟨#[]⟩, .string ⟨#[]⟩, .int .i64 0, .int .i64 0, .int .i64 0, .int .i64 0, .int .i64 0, .int .i64 0, .int .i64 0, .slice none 0 0]
  have hst := stE_row hkn rfl 3 (wd (wn d.t)) ⟨#[]⟩ 0 0 0 0 0 0 0 none 0 0
  have hw1 : w.heap.size + 2 ≤ w1.heap.size := by have := hb1.size; have := HS0.out; omega
  have hbx := below_row hbn hbn.size (Nat.le_refl _) #[.int .i64 3, .string (wd (wn d.t)), .string ⟨#[]⟩, .int .i64 0, .int .i64 0, .int .i64 0, .int .i64 0, .int .i64 0, .int .i64 0, .int .i64 0, .slice none 0 0]
  have hb02 := hb1.trans (below_le hb1.size hbx)
  have HE : Hid (EnW w ((w1.alloc (.cells #[.int .i64 0, .string ⟨#[]⟩, .string ⟨#[]⟩, .int .i64 0, .int .i64 0, .int .i64 0, .int .i64 0, .int .i64 0, .int .i64 0, .int .i64 0, .slice none 0 0] 34)).setRow w1.heap.size #[.int .i64 3, .string (wd (wn d.t)), .string ⟨#[]⟩, .int .i64 0, .int .i64 0, .int .i64 0, .int .i64 0, .int .i64 0, .int .i64 0, .int .i64 0, .slice none 0 0]) d w1.heap.size #[.int .i64 3, .string (wd (wn d.t)), .string ⟨#[]⟩, .int .i64 0, .int .i64 0, .int .i64 0, .int .i64 0, .int .i64 0, .int .i64 0, .int .i64 0, .slice none 0 0]) :=
    ⟨HB0.out.trans (below_le HB0.out.size hb02), HK0.out.ext hb02, ⟨_, HK1.out.ext hb02, rfl⟩, hkn.row _, hw1⟩
  clear hbn hkn hbx hb02 hb1 c1 HWt hw1 HB0 HK0 HK1 HS0
  go_upto_region 2 with fail
  obtain ⟨G, hG⟩ : ∃ G, G = w1.heap.size := ⟨_, rfl⟩
  rw [← hG] at HE ⊢
  generalize (w1.alloc (.cells #[.int .i64 0, .string ⟨#[]⟩, .string ⟨#[]⟩, .int .i64 0, .int .i64 0, .int .i64 0, .int .i64 0, .int .i64 0, .int .i64 0, .int .i64 0, .slice none 0 0] 34)).setRow G #[.int .i64 3, .string (wd (wn d.t)), .string ⟨#[]⟩, .int .i64 0, .int .i64 0, .int .i64 0, .int .i64 0, .int .i64 0, .int .i64 0, .int .i64 0, .slice none 0 0] = X at HE ⊢
  clear hst hG
  have c0 : X.cell? ⟨w.heap.size, 0, none⟩ = some (.int .i64 d.k) := HE.out.num.cell 0
  have HWk := Lib.hid (within_any d.k 0 9 X (by omega) (by omega) (by omega) HD.out.k.1 HD.out.k.2)
  have hkk := within_in d.k 0 9 (by omega)
  obtain ⟨z, hz⟩ : ∃ z, within d.k 0 9 = z := ⟨_, rfl⟩
  rw [hz] at HWk hkk
  have HZ := Lib.hid hz
  clear hz
  go_upto_region 3 with (first | (go_at_call 14; with_reducible refine HWk.out.mono ?_; rintro er w2 ⟨rfl, rfl⟩) | fail)
  have HWi : Hid (∀ (x lo hi : Int) (v : World), lo ≤ hi → -1000000 ≤ lo → hi ≤ 200000000000000 → -9223372036854775808 ≤ x ∧ x ≤ 9223372036854775807 → Calls Tryz.prog 14 #[.int .i64 x, .int .i64 lo, .int .i64 hi] v fun e w' => e = .returned (.int .i64 (within x lo hi)) ∧ v = w') := fun x lo hi v h1 h2 h3 h4 => within_any x lo hi v h1 h2 h3 h4.1 h4.2
  clear HWk c0
  have F0 : Hid (EnW w X.drew d G #[.int .i64 3, .string (wd (wn d.t)), .string ⟨#[]⟩, .int .i64 0, .int .i64 0, .int .i64 0, .int .i64 0, .int .i64 0, .int .i64 0, .int .i64 0, .slice none 0 0]) := HE.out.drew1
  have F2 : Hid (∀ (v : World) (r : Array Value) (R : Prop), EnW w v d G #[.int .i64 3, .string (wd (wn d.t)), .string ⟨#[]⟩, .int .i64 0, .int .i64 0, .int .i64 0, .int .i64 0, .int .i64 0, .int .i64 0, .int .i64 0, .slice none 0 0] ∧ R → r.size = 11 → EnW w (v.setRow (w.heap.size + 1) r) d G #[.int .i64 3, .string (wd (wn d.t)), .string ⟨#[]⟩, .int .i64 0, .int .i64 0, .int .i64 0, .int .i64 0, .int .i64 0, .int .i64 0, .int .i64 0, .slice none 0 0]) := fun v r R h hr => (h.1.row2 r hr).1
  by_cases h0 : z = 0
  · subst h0
    have hn3 := within_in d.n 0 3 (by omega)
    have e3 : IntKind.i64.wrap (within d.n 0 3 * 100) = within d.n 0 3 * 100 := by rw [IntKind.wrap_i64]; omega
    clear hn3
    have FS : Hid (∀ v, EnW w v d G #[.int .i64 3, .string (wd (wn d.t)), .string ⟨#[]⟩, .int .i64 0, .int .i64 0, .int .i64 0, .int .i64 0, .int .i64 0, .int .i64 0, .int .i64 0, .slice none 0 0] → EnW w v d G #[.int .i64 3, .string (wd (wn d.t)), .string ⟨#[]⟩, .int .i64 0, .int .i64 0, .int .i64 0, .int .i64 0, .int .i64 0, .int .i64 0, .int .i64 0, .slice none 0 0] ∧ v.cell? ⟨G, 1, none⟩ = some (.string (wd (wn d.t))) ∧ v.cell? ⟨w.heap.size, 3, none⟩ = some (.int .i64 d.p) ∧ v.cell? ⟨w.heap.size, 4, none⟩ = some (.int .i64 d.n) ∧ (stE (.pointer (some ⟨w.heap.size + 1, 0, none⟩)) (.agg #[.int .i64 1, .string (wd (wn d.t)), .string ⟨#[]⟩, .int .i64 0, .int .i64 (within d.p 1 3), .int .i64 (within d.n 0 3 * 100), .int .i64 0, .int .i64 0, .int .i64 0, .int .i64 0, .slice none 0 0])).run Tryz.prog v = .ok () (v.setRow (w.heap.size + 1) #[.int .i64 1, .string (wd (wn d.t)), .string ⟨#[]⟩, .int .i64 0, .int .i64 (within d.p 1 3), .int .i64 (within d.n 0 3 * 100), .int .i64 0, .int .i64 0, .int .i64 0, .int .i64 0, .slice none 0 0])) := fun v hv => ⟨hv, hv.ent.cell 1, hv.num.cell 3, hv.num.cell 4, hv.st 1 (wd (wn d.t)) ⟨#[]⟩ 0 (within d.p 1 3) (within d.n 0 3 * 100) 0 0 0 0 none 0 0⟩
    go_upto_region 4 with fail
    go_region_held3 (fun v => EnW w v d G #[.int .i64 3, .string (wd (wn d.t)), .string ⟨#[]⟩, .int .i64 0, .int .i64 0, .int .i64 0, .int .i64 0, .int .i64 0, .int .i64 0, .int .i64 0, .slice none 0 0] ∧ v.cell? ⟨G, 1, none⟩ = some (.string (wd (wn d.t))) ∧ v.cell? ⟨w.heap.size, 3, none⟩ = some (.int .i64 d.p) ∧ v.cell? ⟨w.heap.size, 4, none⟩ = some (.int .i64 d.n) ∧ (stE (.pointer (some ⟨w.heap.size + 1, 0, none⟩)) (.agg #[.int .i64 1, .string (wd (wn d.t)), .string ⟨#[]⟩, .int .i64 0, .int .i64 (within d.p 1 3), .int .i64 (within d.n 0 3 * 100), .int .i64 0, .int .i64 0, .int .i64 0, .int .i64 0, .slice none 0 0])).run Tryz.prog v = .ok () (v.setRow (w.heap.size + 1) #[.int .i64 1, .string (wd (wn d.t)), .string ⟨#[]⟩, .int .i64 0, .int .i64 (within d.p 1 3), .int .i64 (within d.n 0 3 * 100), .int .i64 0, .int .i64 0, .int .i64 0, .int .i64 0, .slice none 0 0])) (first | exact FS.out _ F0.out | with_reducible exact FS.out _ (F2.out _ _ _ (by assumption) rfl)) (first | (go_at_call 14; (first | with_reducible refine (HWi.out d.p 1 3 _ (by omega) (by omega) (by omega) HD.out.p).mono ?_ | with_reducible refine (HWi.out d.n 0 3 _ (by omega) (by omega) (by omega) HD.out.n).mono ?_); rintro er w5 ⟨rfl, rfl⟩) | fail)
    all_goals
      have HL := Lib.hid (F0.out.row2 #[.int .i64 1, .string (wd (wn d.t)), .string ⟨#[]⟩, .int .i64 0, .int .i64 (within d.p 1 3), .int .i64 (within d.n 0 3 * 100), .int .i64 0, .int .i64 0, .int .i64 0, .int .i64 0, .slice none 0 0] rfl)
      go_wp2_with fail
      refine bodyPost_ret (results_cell_row rfl _ _ (w.heap.size + 1) _ _ (0, 0) _ rfl HL.out.2 Tryz.underlying34 rfl size_e) rfl ?_
      have he : entOf d = ⟨1, wd (wn d.t), nul, 0, (within d.p 1 3), (within d.n 0 3 * 100), 0, noB⟩ := by
        unfold entOf
        rw [if_pos HZ.out]
      unfold EntR
      rw [he]
      exact ⟨none, 0, 0, rfl, RdT.nil _, HL.out.1.below⟩
  have e0 : (z == 0) = false := by simpa using h0
  by_cases h1 : z = 1
  · subst h1
    have cn : X.cell? ⟨w.heap.size, 4, none⟩ = some (.int .i64 d.n) := HE.out.num.cell 4
    have ct : X.cell? ⟨G, 1, none⟩ = some (.string (wd (wn d.t))) := HE.out.ent.cell 1
    clear F0 F2
    by_cases h2 : within d.n 0 2 = 0
    · have hst := HE.out.st 2 (wd (wn d.t)) ⟨#[]⟩ 0 0 0 0 0 0 0 none 0 0
      have HL := Lib.hid (HE.out.row2 #[.int .i64 2, .string (wd (wn d.t)), .string ⟨#[]⟩, .int .i64 0, .int .i64 0, .int .i64 0, .int .i64 0, .int .i64 0, .int .i64 0, .int .i64 0, .slice none 0 0] rfl)
      have hq : (within d.n 0 2 == 0) = true := by simpa using h2
      go_wp2_with (first | (go_at_call 14; (first | with_reducible refine (HWi.out d.n 0 2 _ (by omega) (by omega) (by omega) HD.out.n).mono ?_); rintro er w5 ⟨rfl, rfl⟩) | fail)
      refine bodyPost_ret (results_cell_row rfl _ _ (w.heap.size + 1) _ _ (0, 0) _ rfl HL.out.2 Tryz.underlying34 rfl size_e) rfl ?_
      have he : entOf d = ⟨2, wd (wn d.t), nul, 0, 0, 0, 0, noB⟩ := by
        unfold entOf
        rw [if_neg (by rw [HZ.out]; decide), if_pos HZ.out, if_pos h2]
      unfold EntR
      rw [he]
      exact ⟨none, 0, 0, rfl, RdT.nil _, HL.out.1.below⟩
    · have hst := HE.out.st 1 (wd (wn d.t)) ⟨#[]⟩ 0 2 0 0 0 0 0 none 0 0
      have HL := Lib.hid (HE.out.row2 #[.int .i64 1, .string (wd (wn d.t)), .string ⟨#[]⟩, .int .i64 0, .int .i64 2, .int .i64 0, .int .i64 0, .int .i64 0, .int .i64 0, .int .i64 0, .slice none 0 0] rfl)
      have hq : (within d.n 0 2 == 0) = false := by simpa using h2
      go_wp2_with (first | (go_at_call 14; (first | with_reducible refine (HWi.out d.n 0 2 _ (by omega) (by omega) (by omega) HD.out.n).mono ?_); rintro er w5 ⟨rfl, rfl⟩) | fail)
      refine bodyPost_ret (results_cell_row rfl _ _ (w.heap.size + 1) _ _ (0, 0) _ rfl HL.out.2 Tryz.underlying34 rfl size_e) rfl ?_
      have he : entOf d = ⟨1, wd (wn d.t), nul, 0, 2, 0, 0, noB⟩ := by
        unfold entOf
        rw [if_neg (by rw [HZ.out]; decide), if_pos HZ.out, if_neg h2]
      unfold EntR
      rw [he]
      exact ⟨none, 0, 0, rfl, RdT.nil _, HL.out.1.below⟩
  have e1 : (z == 1) = false := by simpa using h1
  by_cases h2 : z = 2
  · subst h2
    have HWd : Hid (∀ v, Calls Tryz.prog 30 #[.int .i64 d.g] v fun e w' => e = .returned (.string (wd (wn d.g))) ∧ Below v.heap.size v w') := fun v => kword_any d.g v HD.out.g.1 HD.out.g.2
    have F5 : Hid (∀ (v v' : World) (R : Prop), EnW w v d G #[.int .i64 3, .string (wd (wn d.t)), .string ⟨#[]⟩, .int .i64 0, .int .i64 0, .int .i64 0, .int .i64 0, .int .i64 0, .int .i64 0, .int .i64 0, .slice none 0 0] ∧ R → Below v.heap.size v v' → EnW w v' d G #[.int .i64 3, .string (wd (wn d.t)), .string ⟨#[]⟩, .int .i64 0, .int .i64 0, .int .i64 0, .int .i64 0, .int .i64 0, .int .i64 0, .int .i64 0, .slice none 0 0]) := fun v v' R h hb => h.1.ext hb
    have FS : Hid (∀ v, EnW w v d G #[.int .i64 3, .string (wd (wn d.t)), .string ⟨#[]⟩, .int .i64 0, .int .i64 0, .int .i64 0, .int .i64 0, .int .i64 0, .int .i64 0, .int .i64 0, .slice none 0 0] → EnW w v d G #[.int .i64 3, .string (wd (wn d.t)), .string ⟨#[]⟩, .int .i64 0, .int .i64 0, .int .i64 0, .int .i64 0, .int .i64 0, .int .i64 0, .int .i64 0, .slice none 0 0] ∧ v.cell? ⟨G, 1, none⟩ = some (.string (wd (wn d.t))) ∧ v.cell? ⟨w.heap.size, 2, none⟩ = some (.int .i64 d.g) ∧ v.cell? ⟨w.heap.size, 3, none⟩ = some (.int .i64 d.p) ∧ v.cell? ⟨w.heap.size, 4, none⟩ = some (.int .i64 d.n) ∧ (stE (.pointer (some ⟨w.heap.size + 1, 0, none⟩)) (.agg #[.int .i64 4, .string (wd (wn d.t)), .string (wd (wn d.g)), .int .i64 (within d.p 0 2), .int .i64 0, .int .i64 0, .int .i64 (within d.n 0 320), .int .i64 0, .int .i64 0, .int .i64 0, .slice none 0 0])).run Tryz.prog v = .ok () (v.setRow (w.heap.size + 1) #[.int .i64 4, .string (wd (wn d.t)), .string (wd (wn d.g)), .int .i64 (within d.p 0 2), .int .i64 0, .int .i64 0, .int .i64 (within d.n 0 320), .int .i64 0, .int .i64 0, .int .i64 0, .slice none 0 0])) := fun v hv => ⟨hv, hv.ent.cell 1, hv.num.cell 2, hv.num.cell 3, hv.num.cell 4, hv.st 4 (wd (wn d.t)) (wd (wn d.g)) (within d.p 0 2) 0 0 (within d.n 0 320) 0 0 0 none 0 0⟩
    go_upto_region 10 with fail
    go_region_held3 (fun v => EnW w v d G #[.int .i64 3, .string (wd (wn d.t)), .string ⟨#[]⟩, .int .i64 0, .int .i64 0, .int .i64 0, .int .i64 0, .int .i64 0, .int .i64 0, .int .i64 0, .slice none 0 0] ∧ v.cell? ⟨G, 1, none⟩ = some (.string (wd (wn d.t))) ∧ v.cell? ⟨w.heap.size, 2, none⟩ = some (.int .i64 d.g) ∧ v.cell? ⟨w.heap.size, 3, none⟩ = some (.int .i64 d.p) ∧ v.cell? ⟨w.heap.size, 4, none⟩ = some (.int .i64 d.n) ∧ (stE (.pointer (some ⟨w.heap.size + 1, 0, none⟩)) (.agg #[.int .i64 4, .string (wd (wn d.t)), .string (wd (wn d.g)), .int .i64 (within d.p 0 2), .int .i64 0, .int .i64 0, .int .i64 (within d.n 0 320), .int .i64 0, .int .i64 0, .int .i64 0, .slice none 0 0])).run Tryz.prog v = .ok () (v.setRow (w.heap.size + 1) #[.int .i64 4, .string (wd (wn d.t)), .string (wd (wn d.g)), .int .i64 (within d.p 0 2), .int .i64 0, .int .i64 0, .int .i64 (within d.n 0 320), .int .i64 0, .int .i64 0, .int .i64 0, .slice none 0 0])) (first | exact FS.out _ F0.out | with_reducible exact FS.out _ (F2.out _ _ _ (by assumption) rfl) | exact FS.out _ (F0.out.ext HB5.out) | exact FS.out _ (F5.out _ _ _ (by assumption) HB5.out)) (first | (go_at_call 30; with_reducible refine (HWd.out _).mono ?_; rintro er w4 ⟨rfl, hb4⟩; have HB5 := Lib.hid hb4; clear hb4) | (go_at_call 14; (first | with_reducible refine (HWi.out d.p 0 2 _ (by omega) (by omega) (by omega) HD.out.p).mono ?_ | with_reducible refine (HWi.out d.n 0 320 _ (by omega) (by omega) (by omega) HD.out.n).mono ?_); rintro er w5 ⟨rfl, rfl⟩) | fail)
    all_goals
      have HL := Lib.hid ((F0.out.ext HB5.out).row2 #[.int .i64 4, .string (wd (wn d.t)), .string (wd (wn d.g)), .int .i64 (within d.p 0 2), .int .i64 0, .int .i64 0, .int .i64 (within d.n 0 320), .int .i64 0, .int .i64 0, .int .i64 0, .slice none 0 0] rfl)
      go_wp2_with fail
      refine bodyPost_ret (results_cell_row rfl _ _ (w.heap.size + 1) _ _ (0, 0) _ rfl HL.out.2 Tryz.underlying34 rfl size_e) rfl ?_
      have he : entOf d = ⟨4, wd (wn d.t), (wd (wn d.g)), (within d.p 0 2), 0, 0, (within d.n 0 320), noB⟩ := by
        unfold entOf
        rw [if_neg (by rw [HZ.out]; decide), if_neg (by rw [HZ.out]; decide), if_pos HZ.out]
      unfold EntR
      rw [he]
      exact ⟨none, 0, 0, rfl, RdT.nil _, HL.out.1.below⟩
  have e2 : (z == 2) = false := by simpa using h2
  by_cases h3 : z = 3
  · subst h3
    have FS : Hid (∀ v, EnW w v d G #[.int .i64 3, .string (wd (wn d.t)), .string ⟨#[]⟩, .int .i64 0, .int .i64 0, .int .i64 0, .int .i64 0, .int .i64 0, .int .i64 0, .int .i64 0, .slice none 0 0] → EnW w v d G #[.int .i64 3, .string (wd (wn d.t)), .string ⟨#[]⟩, .int .i64 0, .int .i64 0, .int .i64 0, .int .i64 0, .int .i64 0, .int .i64 0, .int .i64 0, .slice none 0 0] ∧ v.cell? ⟨G, 1, none⟩ = some (.string (wd (wn d.t))) ∧ v.cell? ⟨w.heap.size, 3, none⟩ = some (.int .i64 d.p) ∧ v.cell? ⟨w.heap.size, 4, none⟩ = some (.int .i64 d.n) ∧ (stE (.pointer (some ⟨w.heap.size + 1, 0, none⟩)) (.agg #[.int .i64 5, .string (wd (wn d.t)), .string ⟨#[]⟩, .int .i64 (within d.p 0 2), .int .i64 0, .int .i64 0, .int .i64 (within d.n 0 320), .int .i64 0, .int .i64 0, .int .i64 0, .slice none 0 0])).run Tryz.prog v = .ok () (v.setRow (w.heap.size + 1) #[.int .i64 5, .string (wd (wn d.t)), .string ⟨#[]⟩, .int .i64 (within d.p 0 2), .int .i64 0, .int .i64 0, .int .i64 (within d.n 0 320), .int .i64 0, .int .i64 0, .int .i64 0, .slice none 0 0])) := fun v hv => ⟨hv, hv.ent.cell 1, hv.num.cell 3, hv.num.cell 4, hv.st 5 (wd (wn d.t)) ⟨#[]⟩ (within d.p 0 2) 0 0 (within d.n 0 320) 0 0 0 none 0 0⟩
    go_upto_region 12 with fail
    go_region_held3 (fun v => EnW w v d G #[.int .i64 3, .string (wd (wn d.t)), .string ⟨#[]⟩, .int .i64 0, .int .i64 0, .int .i64 0, .int .i64 0, .int .i64 0, .int .i64 0, .int .i64 0, .slice none 0 0] ∧ v.cell? ⟨G, 1, none⟩ = some (.string (wd (wn d.t))) ∧ v.cell? ⟨w.heap.size, 3, none⟩ = some (.int .i64 d.p) ∧ v.cell? ⟨w.heap.size, 4, none⟩ = some (.int .i64 d.n) ∧ (stE (.pointer (some ⟨w.heap.size + 1, 0, none⟩)) (.agg #[.int .i64 5, .string (wd (wn d.t)), .string ⟨#[]⟩, .int .i64 (within d.p 0 2), .int .i64 0, .int .i64 0, .int .i64 (within d.n 0 320), .int .i64 0, .int .i64 0, .int .i64 0, .slice none 0 0])).run Tryz.prog v = .ok () (v.setRow (w.heap.size + 1) #[.int .i64 5, .string (wd (wn d.t)), .string ⟨#[]⟩, .int .i64 (within d.p 0 2), .int .i64 0, .int .i64 0, .int .i64 (within d.n 0 320), .int .i64 0, .int .i64 0, .int .i64 0, .slice none 0 0])) (first | exact FS.out _ F0.out | with_reducible exact FS.out _ (F2.out _ _ _ (by assumption) rfl)) (first | (go_at_call 14; (first | with_reducible refine (HWi.out d.p 0 2 _ (by omega) (by omega) (by omega) HD.out.p).mono ?_ | with_reducible refine (HWi.out d.n 0 320 _ (by omega) (by omega) (by omega) HD.out.n).mono ?_); rintro er w5 ⟨rfl, rfl⟩) | fail)
    all_goals
      have HL := Lib.hid (F0.out.row2 #[.int .i64 5, .string (wd (wn d.t)), .string ⟨#[]⟩, .int .i64 (within d.p 0 2), .int .i64 0, .int .i64 0, .int .i64 (within d.n 0 320), .int .i64 0, .int .i64 0, .int .i64 0, .slice none 0 0] rfl)
      go_wp2_with fail
      refine bodyPost_ret (results_cell_row rfl _ _ (w.heap.size + 1) _ _ (0, 0) _ rfl HL.out.2 Tryz.underlying34 rfl size_e) rfl ?_
      have he : entOf d = ⟨5, wd (wn d.t), nul, (within d.p 0 2), 0, 0, (within d.n 0 320), noB⟩ := by
        unfold entOf
        rw [if_neg (by rw [HZ.out]; decide), if_neg (by rw [HZ.out]; decide), if_neg (by rw [HZ.out]; decide), if_pos HZ.out]
      unfold EntR
      rw [he]
      exact ⟨none, 0, 0, rfl, RdT.nil _, HL.out.1.below⟩
  have e3 : (z == 3) = false := by simpa using h3
  clear F0 F2
  have cp : X.cell? ⟨w.heap.size, 3, none⟩ = some (.int .i64 d.p) := HE.out.num.cell 3
  have cG : X.cell? ⟨G, 3, none⟩ = some (.int .i64 0) := HE.out.ent.cell 3
  have cf : X.frozen? ⟨G, 3, none⟩ = false := HE.out.ent.thaw 3
  have HY : Hid (EnW w (X.setCell ⟨G, 3, none⟩ (.int .i64 (within d.p 0 2))) d G #[.int .i64 3, .string (wd (wn d.t)), .string ⟨#[]⟩, .int .i64 (within d.p 0 2), .int .i64 0, .int .i64 0, .int .i64 0, .int .i64 0, .int .i64 0, .int .i64 0, .slice none 0 0]) := HE.out.put 3 _
  go_upto_region 14 with (first | (go_at_call 14; (first | with_reducible refine (HWi.out d.p 0 2 _ (by omega) (by omega) (by omega) HD.out.p).mono ?_); rintro er w5 ⟨rfl, rfl⟩) | fail)
  generalize X.setCell ⟨G, 3, none⟩ (.int .i64 (within d.p 0 2)) = Y at HY ⊢
  clear cp cG cf
  obtain ⟨m, hm⟩ : ∃ m : Nat, within d.b 1 3 = m := ⟨(within d.b 1 3).toNat, by have := within_in d.b 1 3 (by omega); omega⟩
  have hm3 : m ≤ 3 := by have := within_in d.b 1 3 (by omega); omega
  have HWb : Hid (∀ v, Calls Tryz.prog 14 #[.int .i64 d.b, .int .i64 1, .int .i64 3] v fun e w' => e = .returned (.int .i64 m) ∧ v = w') := fun v => by
    rw [← hm]
    exact HWi.out d.b 1 3 v (by omega) (by omega) (by omega) HD.out.b
  have HVs : Hid (∀ v, Calls Tryz.prog 31 #[.int .i64 m, .int .i64 d.n] v fun e w' => ∃ A c, e = .returned (.slice A m c) ∧ RdT w' A m c (valsM m d.n) ∧ (∀ ad, A = some ad → v.heap.size ≤ ad.block) ∧ Below v.heap.size v w') := fun v => kvals_any m hm3 d.n v HD.out.n.1 HD.out.n.2
  have hYB : EnB w Y d G := ⟨_, _, _, _, HY.out⟩
  have F0 : Hid (EnB w Y.drew d G) := hYB.ext (below_drew1 (Below.refl _ _))
  have HGl : Hid (G < Y.heap.size) := HY.out.ent.lt
  have F2 : Hid (∀ (v : World) (A : Option Addr) (c : Nat) (R : Prop), EnB w v d G ∧ R → EnB w (v.setCells G 7 [.int .i64 (within d.n 0 50), .int .i64 0, .int .i64 0, .slice A m c]) d G) := fun v A c R h => ⟨_, _, _, _, h.1.put _ _ _ _⟩
  have F5 : Hid (∀ (v v' : World) (R : Prop), EnB w v d G ∧ R → Below v.heap.size v v' → EnB w v' d G) := fun v v' R h hb => h.1.ext hb
  have FS : Hid (∀ v, EnB w v d G → EnB w v d G ∧ v.cell? ⟨w.heap.size, 4, none⟩ = some (.int .i64 d.n) ∧ v.cell? ⟨w.heap.size, 5, none⟩ = some (.int .i64 d.b) ∧ (∀ A c, (stB (.pointer (some ⟨G, 7, none⟩)) (.agg #[.int .i64 (within d.n 0 50), .int .i64 0, .int .i64 0, .slice A m c])).run Tryz.prog v = .ok () (v.setCells G 7 [.int .i64 (within d.n 0 50), .int .i64 0, .int .i64 0, .slice A m c]))) := fun v hv => ⟨hv, hv.num.cell 4, hv.num.cell 5, fun A c => hv.st _ A m c⟩
  have HM := Lib.hid hm
  clear hm hYB HY
  go_region_held3 (fun v => EnB w v d G ∧ v.cell? ⟨w.heap.size, 4, none⟩ = some (.int .i64 d.n) ∧ v.cell? ⟨w.heap.size, 5, none⟩ = some (.int .i64 d.b) ∧ (∀ A c, (stB (.pointer (some ⟨G, 7, none⟩)) (.agg #[.int .i64 (within d.n 0 50), .int .i64 0, .int .i64 0, .slice A m c])).run Tryz.prog v = .ok () (v.setCells G 7 [.int .i64 (within d.n 0 50), .int .i64 0, .int .i64 0, .slice A m c]))) (first | exact FS.out _ F0.out | with_reducible exact FS.out _ (F2.out _ _ _ _ (by assumption)) | with_reducible exact FS.out _ (F0.out.ext HB5.out) | with_reducible exact FS.out _ (F5.out _ _ _ (by assumption) HB5.out)) (first | (go_at_call 31; with_reducible refine (HVs.out _).mono ?_; rintro er w4 ⟨A4, c4, rfl, hr4, hl4, hb4⟩; have HB5 := Lib.hid hb4; have HR4 := Lib.hid hr4; have HL4 := Lib.hid hl4; clear hb4 hr4 hl4) | (go_at_call 14; (first | with_reducible refine (HWi.out d.n 0 50 _ (by omega) (by omega) (by omega) HD.out.n).mono ?_ | with_reducible refine (HWb.out _).mono ?_); rintro er w5 ⟨rfl, rfl⟩) | fail)
  have hE := (F0.out.ext HB5.out).put (.int .i64 (within d.n 0 50)) (.int .i64 0) (.int .i64 0) (.slice A4 m c4)
  have hRd : RdT (w4.setCells G 7 [.int .i64 (within d.n 0 50), .int .i64 0, .int .i64 0, .slice A4 m c4]) A4 m c4 (valsM m d.n) := RdT.kept HR4.out (grown_cells4 w4 G _ _ _ _) (fun ad e e2 => by
    have h1 := HL4.out ad e
    have h2 : Y.heap.size ≤ ad.block := h1
    have h3 := HGl.out
    have h4 := Option.some.inj e2
    omega)
  have HE2 := Lib.hid hE
  have HRd := Lib.hid hRd
  have HNe : Hid (∀ ad, A4 = some ad → some G ≠ some ad.block ∧ some (w.heap.size + 1) ≠ some ad.block) := fun ad e => by
    have h1 := HL4.out ad e
    have h2 : Y.heap.size ≤ ad.block := h1
    have h3 := HGl.out
    have h5 := HE.out.far
    exact ⟨fun ee => by have := Option.some.inj ee; omega, fun ee => by have := Option.some.inj ee; omega⟩
  clear hE hRd F0 F2 F5 FS HWb HVs HL4 HGl
  go_upto_region 15 with fail
  generalize w4.setCells G 7 [.int .i64 (within d.n 0 50), .int .i64 0, .int .i64 0, .slice A4 m c4] = Z at HE2 HRd ⊢
  clear HB5 HR4
  have cq : Z.cell? ⟨w.heap.size, 6, none⟩ = some (.int .i64 d.q) := HE2.out.num.cell 6
  have c8 : Z.cell? ⟨G, 8, none⟩ = some (.int .i64 0) := HE2.out.ent.cell 8
  have f8 : Z.frozen? ⟨G, 8, none⟩ = false := HE2.out.ent.thaw 8
  have hu := within_in d.q 0 11 (by omega)
  have HWq := Lib.hid (HWi.out d.q 0 11 Z (by omega) (by omega) (by omega) HD.out.q)
  obtain ⟨u, hue⟩ : ∃ u, within d.q 0 11 = u := ⟨_, rfl⟩
  rw [hue] at HWq hu
  have HU := Lib.hid hue
  clear hue
  obtain ⟨hu0, hu11⟩ := hu
  have he : entOf d = ⟨3, wd (wn d.t), nul, within d.p 0 2, 0, 0, 0, ⟨within d.n 0 50, prodOf u, seqOf u, valsM m d.n⟩⟩ := by
    unfold entOf
    rw [if_neg (by rw [HZ.out]; exact h0), if_neg (by rw [HZ.out]; exact h1), if_neg (by rw [HZ.out]; exact h2), if_neg (by rw [HZ.out]; exact h3), HU.out, HM.out, Int.toNat_natCast]
  have HEn := Lib.hid he
  clear he
  by_cases hu8 : u < 8
  · have h8 := HE2.out.put 8 (.int .i64 (1 + u / 4))
    have h9 := h8.put 9 (.int .i64 (u % 4))
    have c9 : (Z.setCell ⟨G, 8, none⟩ (.int .i64 (1 + u / 4))).cell? ⟨G, 9, none⟩ = some (.int .i64 0) := h8.ent.cell 9
    have f9 : (Z.setCell ⟨G, 8, none⟩ (.int .i64 (1 + u / 4))).frozen? ⟨G, 9, none⟩ = false := h8.ent.thaw 9
    have hld := ldE_bk (k := 3) (t := wd (wn d.t)) (g := ⟨#[]⟩) (part := within d.p 0 2) (parts := 0) (first := 0) (off := 0) (time := within d.n 0 50) (prod := 1 + u / 4) (seq := u % 4) (A := A4) (n := m) (c := c4) h9.ent
    have hst := h9.st 3 (wd (wn d.t)) ⟨#[]⟩ (within d.p 0 2) 0 0 0 (within d.n 0 50) (1 + u / 4) (u % 4) A4 m c4
    have HL := Lib.hid (h9.row2 #[.int .i64 3, .string (wd (wn d.t)), .string ⟨#[]⟩, .int .i64 (within d.p 0 2), .int .i64 0, .int .i64 0, .int .i64 0, .int .i64 (within d.n 0 50), .int .i64 (1 + u / 4), .int .i64 (u % 4), .slice A4 m c4] rfl)
    clear h8 h9
    go_wp2_with (first | (go_at_call 14; with_reducible refine HWq.out.mono ?_; rintro er w5 ⟨rfl, rfl⟩) | fail)
    refine bodyPost_ret (results_cell_row rfl _ _ (w.heap.size + 1) _ _ (0, 0) _ rfl HL.out.2 Tryz.underlying34 rfl size_e) rfl ?_
    unfold EntR
    rw [HEn.out]
    refine ⟨A4, m, c4, ?_, RdT.kept HRd.out (((grown_set Z ⟨G, 8, none⟩ _).trans (grown_set _ ⟨G, 9, none⟩ _))) (fun ad e => (HNe.out ad e).1) |>.kept (grown_row _ _ _) (fun ad e => (HNe.out ad e).2), HL.out.1.below⟩
    unfold prodOf seqOf
    rw [if_pos hu8, if_pos hu8]
    rfl
  · have hld := ldE_bk (k := 3) (t := wd (wn d.t)) (g := ⟨#[]⟩) (part := within d.p 0 2) (parts := 0) (first := 0) (off := 0) (time := within d.n 0 50) (prod := 0) (seq := 0) (A := A4) (n := m) (c := c4) HE2.out.ent
    have hst := HE2.out.st 3 (wd (wn d.t)) ⟨#[]⟩ (within d.p 0 2) 0 0 0 (within d.n 0 50) 0 0 A4 m c4
    have HL := Lib.hid (HE2.out.row2 #[.int .i64 3, .string (wd (wn d.t)), .string ⟨#[]⟩, .int .i64 (within d.p 0 2), .int .i64 0, .int .i64 0, .int .i64 0, .int .i64 (within d.n 0 50), .int .i64 0, .int .i64 0, .slice A4 m c4] rfl)
    go_wp2_with (first | (go_at_call 14; with_reducible refine HWq.out.mono ?_; rintro er w5 ⟨rfl, rfl⟩) | fail)
    refine bodyPost_ret (results_cell_row rfl _ _ (w.heap.size + 1) _ _ (0, 0) _ rfl HL.out.2 Tryz.underlying34 rfl size_e) rfl ?_
    unfold EntR
    rw [HEn.out]
    refine ⟨A4, m, c4, ?_, RdT.kept HRd.out (grown_row _ _ _) (fun ad e => (HNe.out ad e).2), HL.out.1.below⟩
    unfold prodOf seqOf
    rw [if_neg (by omega), if_neg (by omega)]
    rfl
end Go.Proofs.YtjodiieeocaipaaGreatDoor

/-
  A slice of deeds' numbers that came in; a single one.
-/
namespace Go.Proofs.YtjodiieeocaipaaGreatDoor
open Go.ChangeShapes Go.WideShapes Go.ChangeAt Go.RowKit

def ldQ (v : Value) : Sem Value := Instr.loadAt 43 v
theorem ldQ_eq (v : Value) : Instr.loadAt 43 v = ldQ v := rfl
theorem cells_deed : Tryz.prog.cellsOf 43 = 7 := by kernel_rfl
theorem size_q : (Tryz.prog.info? 43).map (·.size) = some 7 := by kernel_rfl
def Dd.list (q : Dd) : List Value := [.int .i64 q.k, .int .i64 q.t, .int .i64 q.g, .int .i64 q.p, .int .i64 q.n, .int .i64 q.b, .int .i64 q.q]
/-- the slice reads as the deeds l -/
structure RdQ (w : World) (A : Option Addr) (n c : Nat) (l : Nat → Dd) : Prop where
  cap : n ≤ c
  big : c ≤ 9223372036854775807
  ok : ∀ k, k < n → (l k).Ok
  cell : ∀ k, k < n → ∃ ad : Addr, A = some ad ∧ ad.block < w.heap.size ∧ ∀ j u, (l k).list[j]? = some u → w.cell? (ad.add (k * 7 + j)) = some u
theorem RdQ.ext {w w' : World} {A : Option Addr} {n c : Nat} {l : Nat → Dd} (h : RdQ w A n c l) {B : Nat} (hb : Below B w w') (hB : w.heap.size ≤ B) : RdQ w' A n c l :=
  ⟨h.cap, h.big, h.ok, fun k hk => by
    obtain ⟨ad, h1, h2, h3⟩ := h.cell k hk
    exact ⟨ad, h1, Nat.lt_of_lt_of_le h2 hb.size, fun j u hu => (hb.cell (by rw [add_block]; omega)).trans (h3 j u hu)⟩⟩
set_option maxRecDepth 100000 in
theorem deed_of {H : Type} {enc : TypeId × Value → H} {W : World} {fuel : Nat} {cs : List Value} {x : DataW H × List MemPlace} (hl : cs.length = 7) (hf : DataW.trod enc Tryz.prog W 0 (fun _ => true) true fuel 43 cs = some x) : ∃ q : Dd, cs = q.list ∧ q.Ok := by
  obtain ⟨xs, n, _, _, _, hxs, hfi⟩ := DataW.trod_struct Tryz.underlying43 hf
  have hx7 : xs.length = 7 := hxs
  have num : ∀ (i : Nat) (f : Field), (match Tryz.prog.underlying 43 with | some (.struct fs) => fs | _ => #[])[i]? = some f → f.type = 3 → f.offset = i → i < 7 → ∃ z : Int, cs[i]? = some (.int .i64 z) ∧ (-9223372036854775808 ≤ z ∧ z ≤ 9223372036854775807) := by
    intro i f hf1 ht ho hi
    have h1 := hfi i f (by rw [Tryz.underlying43] at hf1; exact hf1)
    rw [ht, ho, cells_int, List.getElem?_eq_getElem (by omega)] at h1
    obtain ⟨z, hz, _, hw⟩ := DataW.trod_int Tryz.underlying3 h1
    exact ⟨z, one_of hz, wf_i64 hw⟩
  obtain ⟨a, ha, a1⟩ := num 0 _ (by rw [Tryz.underlying43]; rfl) rfl rfl (by omega)
  obtain ⟨b, hb, b1⟩ := num 1 _ (by rw [Tryz.underlying43]; rfl) rfl rfl (by omega)
  obtain ⟨c, hc, c1⟩ := num 2 _ (by rw [Tryz.underlying43]; rfl) rfl rfl (by omega)
  obtain ⟨d, hd, d1⟩ := num 3 _ (by rw [Tryz.underlying43]; rfl) rfl rfl (by omega)
  obtain ⟨e, he, e1⟩ := num 4 _ (by rw [Tryz.underlying43]; rfl) rfl rfl (by omega)
  obtain ⟨g, hg, g1⟩ := num 5 _ (by rw [Tryz.underlying43]; rfl) rfl rfl (by omega)
  obtain ⟨i, hi, i1⟩ := num 6 _ (by rw [Tryz.underlying43]; rfl) rfl rfl (by omega)
  refine ⟨⟨a, b, c, d, e, g, i⟩, ?_, ⟨a1, b1, c1, d1, e1, g1, i1⟩⟩
  obtain ⟨x0, x1, x2, x3, x4, x5, x6, rfl⟩ : ∃ x0 x1 x2 x3 x4 x5 x6, cs = [x0, x1, x2, x3, x4, x5, x6] := by
    match cs, hl with
    | [x0, x1, x2, x3, x4, x5, x6], _ => exact ⟨x0, x1, x2, x3, x4, x5, x6, rfl⟩
  simp at ha hb hc hd he hg hi
  subst ha hb hc hd he hg hi
  rfl
set_option maxRecDepth 100000 in
theorem Came.deeds {H : Type} {enc : TypeId × Value → H} {W : World} {base : Nat} {v : Value} {d : DataW H} {p : List MemPlace} (h : Came enc W base 39 v d p) : ∃ A n c l, v = .slice A n c ∧ RdQ W A n c l := by
  obtain ⟨A, n, c, rfl⟩ := okWide_slice Tryz.underlying39 h.1
  obtain ⟨fuel, hf⟩ := h.2
  rcases Go.Deep.open_slice Tryz.underlying39 hf with ⟨hcs, _⟩ | ⟨a, len, cap, m, n', D, Pl, hcs, _, hl, hm, hmm, _, hi⟩
  · simp [Value.cells] at hcs
    obtain ⟨rfl, rfl, rfl⟩ := hcs
    exact ⟨none, 0, 0, fun _ => ⟨0, 0, 0, 0, 0, 0, 0⟩, rfl, Nat.le_refl _, by omega, fun k h => by omega, fun k h => by omega⟩
  · simp [Value.cells] at hcs
    obtain ⟨rfl, rfl, rfl⟩ := hcs
    rw [cells_deed] at hi
    have hget : ∀ i, ∃ q : Dd, i < n → q.Ok ∧ a.block < W.heap.size ∧ ∀ j u, q.list[j]? = some u → W.cell? (a.add (i * 7 + j)) = some u := by
      intro i
      by_cases hin : i < n
      · obtain ⟨cs', hc, ht⟩ := hi i (by rw [hmm]; simp; omega)
        obtain ⟨_, hcl, hat⟩ := World.cells?_some hc
        obtain ⟨q, rfl, hq⟩ := deed_of hcl ht
        have h0 := hat 0 (by omega)
        refine ⟨q, fun _ => ⟨hq, ?_, fun j u hu => ?_⟩⟩
        · have := cell_lt (h0.trans (by rfl))
          rwa [add_block, add_block] at this
        · have hj : j < 7 := by have := (List.getElem?_eq_some_iff.1 hu).1; exact this
          have := hat j hj
          rw [add_add'] at this
          rw [this, hu]
      · exact ⟨⟨0, 0, 0, 0, 0, 0, 0⟩, fun h => absurd h hin⟩
    obtain ⟨f, hf'⟩ := Classical.axiomOfChoice hget
    exact ⟨some a, n, c, f, rfl, hl, by unfold maxLen at hm; exact hm, fun k hk => (hf' k hk).1, fun k hk => ⟨a, rfl, (hf' k hk).2.1, (hf' k hk).2.2⟩⟩
/-- a deed loaded from its place -/
theorem RdQ.load {w : World} {ad : Addr} {n c : Nat} {l : Nat → Dd} (h : RdQ w (some ad) n c l) {k : Nat} (hk : k < n) : (ldQ (.pointer (some (ad.add (k * 7))))).run Tryz.prog w = .ok (.agg (l k).cells) w := by
  obtain ⟨ad', e, h2, h3⟩ := h.cell k hk
  obtain rfl := Option.some.inj e
  have hl : (loadCells (ad.add (k * 7)) (l k).list.length).run Tryz.prog w = .ok (l k).list.toArray w :=
    run_loadCells_list (P := Tryz.prog) w (ad.add (k * 7)) (l k).list (fun j v hv => by rw [add_add']; exact h3 j v hv)
  have hagg : (isAgg 43).run Tryz.prog w = .ok true w := by
    unfold isAgg
    rw [Sem.run_bind, run_underlying Tryz.underlying43 w]
    rfl
  unfold ldQ
  cases hq : Tryz.prog.info? 43 with
  | none =>
    have := size_q
    rw [hq] at this
    cases this
  | some i =>
    have hs : i.size = (l k).list.length := by
      have := size_q
      rw [hq] at this
      exact Option.some.inj this
    simp only [Instr.loadAt, Instr.sureAddr, Sem.run_bind, Sem.run_pure, Result.andThen_ok]
    simp [loadVar, Sem.run_bind, hagg, sizeOf, typeInfo, hq, hs, hl]
    rfl
end Go.Proofs.YtjodiieeocaipaaGreatDoor

/-
  What a law keeps while a State turns: a result's place, an entry's place, its records.
-/
namespace Go.Proofs.YtjodiieeocaipaaGreatDoor
open Go.RowKit Go.Maps

theorem box_done (z : World) (b c : Int) (g : Bool) : (stD (.pointer (some ⟨z.heap.size, 0, none⟩)) (.agg #[.int .i64 b, .int .i64 c, .bool g])).run Tryz.prog (z.alloc (.cells #[.int .i64 0, .int .i64 0, .bool false] 25)) = .ok () ((z.alloc (.cells #[.int .i64 0, .int .i64 0, .bool false] 25)).setRow z.heap.size #[.int .i64 b, .int .i64 c, .bool g]) ∧
    Bk ((z.alloc (.cells #[.int .i64 0, .int .i64 0, .bool false] 25)).setRow z.heap.size #[.int .i64 b, .int .i64 c, .bool g]) z.heap.size 25 #[.int .i64 b, .int .i64 c, .bool g] ∧
    Below z.heap.size z ((z.alloc (.cells #[.int .i64 0, .int .i64 0, .bool false] 25)).setRow z.heap.size #[.int .i64 b, .int .i64 c, .bool g]) := by
  have hk := Bk.made z 25 #[.int .i64 0, .int .i64 0, .bool false]
  have hb := below_new z (.cells #[.int .i64 0, .int .i64 0, .bool false] 25)
  exact ⟨stD_row hk rfl b c g, hk.row _, below_row hb hb.size (Nat.le_refl _) _⟩
/-- records that lie in a block known whole -/
theorem RdT.bk {w : World} {g : Nat} {s : ByteArray} (h : Bk w g 9 #[.string s]) : RdT w (some ⟨g, 0, none⟩) 1 1 [s] := by
  refine ⟨rfl, Nat.le_refl _, by decide, fun k u hu => ⟨_, rfl, h.lt, ?_⟩⟩
  rw [Addr.add_none, h.cell, ← hu, Nat.zero_add]
  simp
theorem nil_of {v : Value} (h : ErrV2 v 0) : v = .nilIface := by
  rcases h with ⟨_, h⟩ | ⟨h, _⟩
  · exact h
  · exact absurd rfl h
/-- the place of z's entry, and of its one record -/
def rowZ (gq : Nat) : Array Value := #[.int .i64 3, .string ⟨#[122]⟩, .string ⟨#[]⟩, .int .i64 0, .int .i64 0, .int .i64 0, .int .i64 0, .int .i64 0, .int .i64 1, .int .i64 0, .slice (some ⟨gq, 0, none⟩) 1 1]
/-- what StateApart holds ahead of a round -/
def ApI (w wr : World) (s gz gq k : Nat) : Prop := ∃ (N : Nat) (M : StM) (P : PartM), N ≤ k + 3 ∧ Run w wr s N M (fun i => i = gz ∨ i = gq) ∧ ZAt M P ∧ P.log.start = 7 ∧ P.log.next = 8 ∧
  Bk wr gz 34 (rowZ gq) ∧ Bk wr gq 9 #[.string ⟨#[113]⟩]
theorem ApI.below {w wr : World} {s gz gq k : Nat} (h : ApI w wr s gz gq k) : Below w.heap.size w wr := by
  obtain ⟨N, M, P, _, h, _⟩ := h
  exact h.below
/-- a round -/
theorem ApI.step {w wr w3 : World} {s gz gq k : Nat} (h : ApI w wr s gz gq k) (hk : k < 30) (hb : Below wr.heap.size wr w3) (d : Dd) (A : Option Addr) (n c : Nat) (hrd : RdT w3 A n c (entOf d).bat.vals) (at_ : Int) :
    Calls Tryz.prog 11 #[.pointer (some ⟨s, 0, none⟩), .agg #[.int .i64 (entOf d).kind, .string (entOf d).topic, .string (entOf d).group, .int .i64 (entOf d).part, .int .i64 (entOf d).parts, .int .i64 (entOf d).first, .int .i64 (entOf d).off, .int .i64 (entOf d).bat.time, .int .i64 (entOf d).bat.prod, .int .i64 (entOf d).bat.seq, .slice A n c], .int .i64 1, .int .i64 at_] w3
      fun er w' => ∃ a v, er = .returned (.tuple #[a, v]) ∧ ApI w w' s gz gq (k + 1) := by
  obtain ⟨N, M, P, hN, hR, hZ, h7, h8, hz, hq⟩ := h
  have hR3 := (hR.ext hb).less (K' := fun i => i = gz ∨ i = gq) (fun _ h => .inl h)
  refine (run_step hR3 (by omega) (entOf d) A n c hrd 1 at_ rfl).mono ?_
  rintro er w' ⟨v, rfl, _, h1, h2⟩
  refine ⟨_, v, rfl, N + 1, _, P, by omega, h1, hZ.other (by rw [entOf_topic]; exact fun e => wd_z (wn_lt _) e.symm) _ _, h7, h8, ?_, ?_⟩
  · exact (hz.ext hb).turned h2 (fun hx => hx.2 (.inl rfl))
  · exact (hq.ext hb).turned h2 (fun hx => hx.2 (.inr rfl))
theorem ldE_rowZ {w : World} {gz gq : Nat} (h : Bk w gz 34 (rowZ gq)) : (ldE (.pointer (some ⟨gz, 0, none⟩))).run Tryz.prog w = .ok (.agg #[.int .i64 3, .string ⟨#[122]⟩, .string ⟨#[]⟩, .int .i64 0, .int .i64 0, .int .i64 0, .int .i64 0, .int .i64 0, .int .i64 1, .int .i64 0, .slice (some ⟨gq, 0, none⟩) 1 1]) w := ldE_bk h
end Go.Proofs.YtjodiieeocaipaaGreatDoor
