/-
  The walks of the laws CrcTurned and CrcNear.
-/
import Derived.Test.YtljpefpdpgalgaaCrcLaw
namespace Go.Proofs.Ytljpefpdpgalgaa
open Go.RowKit CrcMath
/-- byte i of x -/
def byteOf (x : BitVec 32) (i : Nat) : UInt8 := lowB (x >>> (8 * i))
/-- the first j of four bytes from place k on turned by x -/
def mixTo (l : List UInt8) (k : Nat) (x : BitVec 32) : Nat → List UInt8
  | 0 => l
  | j + 1 => (mixTo l k x j).set (k + j) (((mixTo l k x j)[k + j]?.getD 0) ^^^ byteOf x j)
theorem mixTo_len (l : List UInt8) (k : Nat) (x : BitVec 32) (j : Nat) : (mixTo l k x j).length = l.length := by
  induction j with
  | zero => rfl
  | succ j ih => simp [mixTo, ih]
theorem mixTo_get (l : List UInt8) (k : Nat) (x : BitVec 32) (j : Nat) (h : k + j ≤ l.length) : ∀ i : Nat, (mixTo l k x j)[i]? = if k ≤ i ∧ i < k + j then some ((l[i]?.getD 0) ^^^ byteOf x (i - k)) else l[i]? := by
  induction j with
  | zero => intro i; rw [if_neg (by omega)]; rfl
  | succ j ih =>
    intro i
    have ih' := ih (by omega)
    show ((mixTo l k x j).set (k + j) _)[i]? = _
    rw [List.getElem?_set]
    by_cases e : k + j = i
    · subst e
      rw [if_pos rfl, if_pos (by rw [mixTo_len]; omega), if_pos (by omega), ih', if_neg (by omega), show k + j - k = j by omega]
    · rw [if_neg e, ih']
      by_cases h1 : k ≤ i ∧ i < k + j
      · rw [if_pos h1, if_pos (by omega)]
      · rw [if_neg h1, if_neg (by omega)]
theorem mixTo_burst (l : List UInt8) (k : Nat) (x : BitVec 32) (h : k + 4 ≤ l.length) : mixTo l k x 4 = burst l k x := by
  apply List.ext_getElem?
  intro i
  rw [mixTo_get l k x 4 h i]
  have h4 : (mix ((l.drop k).take 4) (le4 x)).length = 4 := by unfold mix; rw [List.length_zipWith, List.length_take, List.length_drop]; show min (min 4 (l.length - k)) 4 = 4; omega
  unfold burst
  by_cases h1 : i < k
  · rw [if_neg (by omega), List.append_assoc, List.getElem?_append_left (by rw [List.length_take]; omega), List.getElem?_take, if_pos h1]
  · by_cases h2 : i < k + 4
    · rw [if_pos (by omega), List.append_assoc, List.getElem?_append_right (by rw [List.length_take]; omega), List.length_take, Nat.min_eq_left (by omega), List.getElem?_append_left (by omega)]
      have hi : i < l.length := by omega
      obtain ⟨q, rfl⟩ : ∃ q, i = k + q := ⟨i - k, by omega⟩
      rw [show k + q - k = q by omega]
      unfold mix
      rw [List.getElem?_zipWith, List.getElem?_take, if_pos (by omega), List.getElem?_drop, List.getElem?_eq_getElem hi]
      have hq : q = 0 ∨ q = 1 ∨ q = 2 ∨ q = 3 := by omega
      rcases hq with rfl | rfl | rfl | rfl <;> rfl
    · rw [if_neg (by omega), List.getElem?_append_right (by rw [List.length_append, h4, List.length_take]; omega), List.length_append, h4, List.length_take, Nat.min_eq_left (by omega), List.getElem?_drop]
      congr 1; omega
theorem mix_step {w : World} {g cap : Nat} {l : List UInt8} {k : Nat} {x : BitVec 32} {j : Nat} {y : UInt8} (h : OwnAt w g cap (mixTo l k x j)) (hy : (mixTo l k x j)[k + j]? = some y) (b : UInt8) (hb : b = byteOf x j) :
    OwnAt (w.setCell ⟨g, k + j, none⟩ (.int .u8 (w8 (y ^^^ b)))) g cap (mixTo l k x (j + 1)) := by
  subst hb
  have h1 := h.put (k + j) (y ^^^ byteOf x j)
  have e : mixTo l k x (j + 1) = (mixTo l k x j).set (k + j) (y ^^^ byteOf x j) := by
    show (mixTo l k x j).set (k + j) _ = _
    rw [hy]; rfl
  rw [e]; exact h1
theorem IsTable.drawnN {w : World} {g : Nat} (h : IsTable w g) (n : Nat) : IsTable (w.drewN n) g := h
theorem OwnAt.drew1 {w : World} {g cap : Nat} {l : List UInt8} (h : OwnAt w g cap l) : OwnAt w.drew g cap l := h.drawn 1
theorem below_drew1 {B : Nat} {a w : World} (h : Below B a w) : Below B a w.drew := below_drawn h 1
/-- the number of four bytes, the lowest first -/
def le32 (b0 b1 b2 b3 : UInt8) : BitVec 32 := BitVec.ofNat 32 (b3.toNat * 16777216 + (b2.toNat * 65536 + (b1.toNat * 256 + b0.toNat)))
theorem le32_or (b0 b1 b2 b3 : UInt8) : bits .or .u32 (bits .or .u32 (bits .or .u32 (w8 b0 % 4294967296) (w8 b1 % 4294967296 * 256 % 4294967296)) (w8 b2 % 4294967296 * 65536 % 4294967296)) (w8 b3 % 4294967296 * 16777216 % 4294967296) = w32 (le32 b0 b1 b2 b3) := by
  have h0 := b0.toNat_lt
  have h1 := b1.toNat_lt
  have h2 := b2.toNat_lt
  have h3 := b3.toNat_lt
  have e0 : w8 b0 % 4294967296 = ((b0.toNat : Nat) : Int) := by unfold w8; omega
  have e1 : w8 b1 % 4294967296 * 256 % 4294967296 = ((b1.toNat * 256 : Nat) : Int) := by unfold w8; omega
  have e2 : w8 b2 % 4294967296 * 65536 % 4294967296 = ((b2.toNat * 65536 : Nat) : Int) := by unfold w8; omega
  have e3 : w8 b3 % 4294967296 * 16777216 % 4294967296 = ((b3.toNat * 16777216 : Nat) : Int) := by unfold w8; omega
  have j1 : b0.toNat ||| b1.toNat * 256 = b1.toNat * 256 + b0.toNat := by rw [Nat.or_comm]; exact nat_join 8 _ _ (by omega) (by omega)
  have j2 : (b1.toNat * 256 + b0.toNat) ||| b2.toNat * 65536 = b2.toNat * 65536 + (b1.toNat * 256 + b0.toNat) := by rw [Nat.or_comm]; exact nat_join 16 _ _ (by omega) (by omega)
  have j3 : (b2.toNat * 65536 + (b1.toNat * 256 + b0.toNat)) ||| b3.toNat * 16777216 = b3.toNat * 16777216 + (b2.toNat * 65536 + (b1.toNat * 256 + b0.toNat)) := by rw [Nat.or_comm]; exact nat_join 24 _ _ (by omega) (by omega)
  rw [e0, e1, e2, e3, u32_or_nat _ _ (by omega) (by omega), j1, u32_or_nat _ _ (by omega) (by omega), j2, u32_or_nat _ _ (by omega) (by omega), j3]
  unfold w32 le32
  rw [BitVec.toNat_ofNat]
  omega
theorem le4_le32 (b0 b1 b2 b3 : UInt8) : le4 (le32 b0 b1 b2 b3) = [b0, b1, b2, b3] := by
  have h0 := b0.toNat_lt
  have h1 := b1.toNat_lt
  have h2 := b2.toNat_lt
  have h3 := b3.toNat_lt
  have key : ∀ (k : Nat) (b : UInt8), (((b3.toNat * 16777216 + (b2.toNat * 65536 + (b1.toNat * 256 + b0.toNat))) % 4294967296) >>> k) % 256 = b.toNat → (⟨(le32 b0 b1 b2 b3 >>> k).setWidth 8⟩ : UInt8) = b := by
    intro k b h
    apply UInt8.toNat_inj.1
    show ((le32 b0 b1 b2 b3 >>> k).setWidth 8).toNat = _
    rw [BitVec.toNat_setWidth, BitVec.toNat_ushiftRight]
    unfold le32
    rw [BitVec.toNat_ofNat]
    exact h
  have k0 := key 0 b0 (by rw [Nat.shiftRight_zero]; omega)
  rw [BitVec.ushiftRight_zero] at k0
  have k1 := key 8 b1 (by rw [Nat.shiftRight_eq_div_pow]; omega)
  have k2 := key 16 b2 (by rw [Nat.shiftRight_eq_div_pow]; omega)
  have k3 := key 24 b3 (by rw [Nat.shiftRight_eq_div_pow]; omega)
  unfold le4
  rw [k0, k1, k2, k3]
/-- the plain law: bytes with their sum behind, turned by x: told just if x is not 0 -/
theorem turned_law (L T : List UInt8) (s x : BitVec 32) (m k : Nat) (y0 y1 y2 y3 : UInt8) (hL : L.length = m) (hs : on 0#32 L = s) (hk : k ≤ m) (hT : T = mixTo (L ++ le4 s) k x 4)
    (h0 : T[m]? = some y0) (h1 : T[m + 1]? = some y1) (h2 : T[m + 2]? = some y2) (h3 : T[m + 3]? = some y3) : on 0#32 (T.take m) = le32 y0 y1 y2 y3 ↔ x = 0#32 := by
  have hMl : (L ++ le4 s).length = m + 4 := by rw [List.length_append, hL]; rfl
  have hTl : T.length = m + 4 := by rw [hT, mixTo_len, hMl]
  have hsplit : T = T.take m ++ le4 (le32 y0 y1 y2 y3) := by
    rw [le4_le32]
    apply List.ext_getElem?
    intro i
    by_cases hi : i < m
    · rw [List.getElem?_append_left (by rw [List.length_take]; omega), List.getElem?_take, if_pos hi]
    · rw [List.getElem?_append_right (by rw [List.length_take]; omega), List.length_take, Nat.min_eq_left (by omega)]
      obtain ⟨q, rfl⟩ : ∃ q, i = m + q := ⟨i - m, by omega⟩
      rw [show m + q - m = q by omega]
      by_cases hq : q < 4
      · have hq' : q = 0 ∨ q = 1 ∨ q = 2 ∨ q = 3 := by omega
        rcases hq' with rfl | rfl | rfl | rfl
        · exact h0
        · exact h1
        · exact h2
        · exact h3
      · rw [List.getElem?_eq_none (by omega), List.getElem?_eq_none (by simp; omega)]
  rw [sum_behind, ← hsplit, hT, mixTo_burst _ _ _ (by omega), ← (sum_behind L s).1 hs]
  exact burst_fold _ _ _ _ (by omega)
attribute [local go_sem] le32_or
attribute [local go_sem] xor_u32 xor_u8 not_u32 signed_u32 low_u32 xor_poly shr8_u32 shr16_u32 shr24_u32 shr1_u32 w8_nn w8_256

set_option maxRecDepth 100000 in
set_option maxHeartbeats 1000000 in
theorem crcTurned_any {H : Type} {enc : TypeId × Value → H} {base : Nat} {v0 v1 v2 : Value} {d0 d1 d2 : DataW H} {p0 p1 p2 : List MemPlace} (w : World) (h0 : Came enc w base 26 v0 d0 p0) (h1 : Came enc w base 3 v1 d1 p1) (h2 : Came enc w base 24 v2 d2 p2) :
    Calls Try.prog 5 #[v0, v1, v2] w fun e w' => e = .returned (.bool true) ∧ Below w.heap.size w w' := by
  obtain ⟨A, n, c, l, rfl, hr⟩ := h0.bytes
  obtain ⟨z, rfl, hz1, hz2⟩ := h1.int
  obtain ⟨x, rfl⟩ := h2.u32
  clear h0 h1 h2
  have hcap := hr.cap
  have hbig := hr.big
  obtain ⟨m, hmin, hmn, hm, _⟩ := cut_min n 124 (by omega)
  have hr2 := hr.upto m hmn
  generalize l.take m = L at hr2
  clear hr
  have hmc : m ≤ c := by omega
  have hL := Lib.hid hr2.len
  go_enter Try.func5, Try.ntmps5
  go_wp2_with fail
  refine (make_any _).mono ?_
  rintro e w1 ⟨rfl, ht, hb1⟩
  have Ht := Lib.hid ht
  clear ht
  go_wp2_with (at_builtin; refine wpList_append_bytes rfl (.tmp 17) (.tmp 22) rfl w1.heap.size w1 _ [] rfl (OwnB.empty w1 w1.heap.size (Nat.le_refl _)) A m c L rfl ((hr2.ext hb1).ext ((Below.refl _ _).alloc (Nat.le_refl _) _)) (by simp; omega) ((Below.refl _ _).alloc (Nat.le_refl _) _) (by simp) m (by simp) ?_; intro A2 c2 w2 hown2 hb2 hB2)
  have hown3 := hown2.out
  rw [List.nil_append] at hown3
  have hrd2 : RdB w2 A2 m c2 L := by
    obtain ⟨A', c', e, hq⟩ := hown3.reads
    injection e with e1 e2 e3
    subst e1 e3
    rw [← e2] at hq
    exact hq
  have Hown := Lib.hid hown3
  refine (sum_any _ _ _ _ _ _ (Ht.out.ext hb2) hrd2).mono ?_
  rintro e w2' ⟨rfl, rfl⟩
  clear hown2 hown3 hrd2
  generalize hs : on 0#32 L = s
  have Hs := Lib.hid hs
  clear hs
  go_wp2_with (at_builtin; refine wpList_append_more rfl (.tmp 27) (.tmp 39) rfl w1.heap.size w1 _ L rfl (World.ownsRow.alloc Hown.out _) (some ⟨w2.heap.size, 0, none⟩) 4 4 (le4 s) rfl (RdB.const w2 (le4 s) _ rfl 5 (0, 0) 4 rfl (by omega)) (by rw [hL.out]; omega) (hb2.alloc hB2 _) (by simp; omega) (m + 4) (by rw [hL.out]) (by omega) ?_; intro g cap w3 hg hroom hcb hown3 hb3 hB3)
  obtain ⟨M, hM⟩ : ∃ M, M = L ++ le4 s := ⟨_, rfl⟩
  rw [← hM] at hown3
  have HMl : Hid (M.length = m + 4) := by rw [hM, List.length_append, hL.out]; rfl
  have HM := Lib.hid hM
  clear hM
  refine (within_nat _ _ _ (by omega) (by omega) hz1 hz2).mono ?_
  rintro e w2' ⟨k, rfl, hk, rfl⟩
  go_wp2_with fail
  go_loopw [11] (fun i wr => ∃ j : Nat, j ≤ 4 ∧ i = .int .i64 j ∧ Hid (OwnAt wr g cap (mixTo M k x j)) ∧ Below w1.heap.size w1 wr) (fun i _ => 4 - (intOf i).toNat)
  case atStart => exact ⟨0, by omega, rfl, hown3, hb3⟩
  case round =>
    obtain ⟨j, hj, rfl, hown4, hb4⟩ := hrel
    by_cases hlt : j < 4
    · obtain ⟨y, hy, hcy⟩ := hown4.out.get (i := k + j) (by rw [mixTo_len, HMl.out]; omega)
      have hf := hown4.out.thaw (k + j)
      have hkj : (k : Int) + j < m + 4 := by omega
      have hj4 : j = 0 ∨ j = 1 ∨ j = 2 ∨ j = 3 := by omega
      have Hown4 := hown4
      rcases hj4 with rfl | rfl | rfl | rfl
      · rw [Nat.add_zero] at hcy hf
        have H4 := Lib.hid (mix_step hown4.out hy.out (lowB x) (by unfold byteOf; rfl)).drew1
        go_wp2
        go_region
        go_wp2
        go_roundw
        case rel => exact ⟨1, by omega, by go_num, H4, below_drew1 (hb4.setCell hg _)⟩
        case measure => simp [intOf]
      · have H4 := Lib.hid (mix_step hown4.out hy.out (lowB (x >>> 8)) (by unfold byteOf; rfl)).drew1
        go_wp2
        go_region
        go_wp2
        go_roundw
        case rel => exact ⟨2, by omega, by go_num, H4, below_drew1 (hb4.setCell hg _)⟩
        case measure => simp [intOf]
      · have H4 := Lib.hid (mix_step hown4.out hy.out (lowB (x >>> 16)) (by unfold byteOf; rfl)).drew1
        go_wp2
        go_region
        go_wp2
        go_roundw
        case rel => exact ⟨3, by omega, by go_num, H4, below_drew1 (hb4.setCell hg _)⟩
        case measure => simp [intOf]
      · have H4 := Lib.hid (mix_step hown4.out hy.out (lowB (x >>> 24)) (by unfold byteOf; rfl)).drew1
        go_wp2
        go_region
        go_wp2
        go_roundw
        case rel => exact ⟨4, by omega, by go_num, H4, below_drew1 (hb4.setCell hg _)⟩
        case measure => simp [intOf]
    · have hj4 : j = 4 := by omega
      subst hj4
      obtain ⟨T, hT⟩ : ∃ T, T = mixTo M k x 4 := ⟨_, rfl⟩
      rw [← hT] at hown4
      have hTl : T.length = m + 4 := by rw [hT, mixTo_len, HMl.out]
      have HT := Lib.hid hT
      clear hT
      obtain ⟨y0, hy0, hc0⟩ := hown4.out.get (i := m) (by omega)
      obtain ⟨y1, hy1, hc1⟩ := hown4.out.get (i := m + 1) (by omega)
      obtain ⟨y2, hy2, hc2⟩ := hown4.out.get (i := m + 2) (by omega)
      obtain ⟨y3, hy3, hc3⟩ := hown4.out.get (i := m + 3) (by omega)
      have HTl := Lib.hid hTl
      clear hTl
      have HB := Lib.hid hb4
      have HTK := hown4.out.reads 0 m cap (by rw [HTl.out]; omega) (by omega) hcb
      rw [List.drop_zero] at HTK
      have HTk := Lib.hid HTK
      have Hlaw := Lib.hid (turned_law L T s x m k y0 y1 y2 y3 hL.out Hs.out (by omega) (by rw [HT.out, HM.out]) hy0.out hy1.out hy2.out hy3.out)
      clear HTK hb4
      go_wp2_with fail
      go_quiet (fail)
      go_wp2_with fail
      refine (sum_any _ _ _ _ _ _ ((Ht.out.ext HB.out).drawnN _) (HTk.out.drawn _)).mono ?_
      rintro e w2' ⟨rfl, rfl⟩
      by_cases hx : x = 0#32
      · have hxx := Hlaw.out.2 hx
        rw [hxx]
        subst hx
        have ex : w32 0#32 = 0 := rfl
        clear hxx
        go_wp2_with fail
        refine (crcRuns_any _).mono ?_
        rintro e w5 ⟨rfl, hb5⟩
        go_wp2_with fail
        go_ret
        exact ⟨rfl, (below_drawn (hb1.trans (HB.out.mono hb1.size)) _).trans (hb5.mono (below_drawn (hb1.trans (HB.out.mono hb1.size)) _).size)⟩
      · have t1 : (w32 (on 0#32 (T.take m)) == w32 (le32 y0 y1 y2 y3)) = false := by
          rw [beq_eq_false_iff_ne]; intro e; exact hx (Hlaw.out.1 (w32_inj e))
        have t2 : (w32 x == 0) = false := by
          rw [beq_eq_false_iff_ne]; intro e; exact hx (w32_inj (b := 0#32) e)
        clear hx
        go_wp2_with fail
        refine (crcRuns_any _).mono ?_
        rintro e w5 ⟨rfl, hb5⟩
        go_wp2_with fail
        go_ret
        exact ⟨rfl, (below_drawn (hb1.trans (HB.out.mono hb1.size)) _).trans (hb5.mono (below_drawn (hb1.trans (HB.out.mono hb1.size)) _).size)⟩

theorem OwnB.newEmpty {w : World} : OwnB (w.alloc (.cells #[] 5)) w.heap.size (.slice (some ⟨w.heap.size, 0, none⟩) 0 0) [] := OwnB.empty w w.heap.size (Nat.le_refl _)
theorem below_new (w : World) (o : Obj) : Below w.heap.size w (w.alloc o) := (Below.refl _ _).alloc (Nat.le_refl _) _

set_option maxRecDepth 100000 in
set_option maxHeartbeats 1000000 in
theorem crcNear_any {H : Type} {enc : TypeId × Value → H} {base : Nat} {v0 v1 v2 v3 : Value} {d0 d1 d2 d3 : DataW H} {p0 p1 p2 p3 : List MemPlace} (w : World) (h0 : Came enc w base 26 v0 d0 p0) (h1 : Came enc w base 3 v1 d1 p1) (h2 : Came enc w base 24 v2 d2 p2) (h3 : Came enc w base 26 v3 d3 p3) :
    Calls Try.prog 8 #[v0, v1, v2, v3] w fun e w' => e = .returned (.bool true) ∧ Below w.heap.size w w' := by
  obtain ⟨A, n, c, l, rfl, hr⟩ := h0.bytes
  obtain ⟨z, rfl, hz1, hz2⟩ := h1.int
  obtain ⟨x, rfl⟩ := h2.u32
  obtain ⟨A3, n3, c3, l3, rfl, hr3⟩ := h3.bytes
  clear h0 h1 h2 h3
  have hcap := hr.cap
  have hbig := hr.big
  have hcap3 := hr3.cap
  have hbig3 := hr3.big
  obtain ⟨m, hmin, hmn, hm, _⟩ := cut_min n 80 (by omega)
  obtain ⟨m3, hmin3, hmn3, hm3, _⟩ := cut_min n3 40 (by omega)
  have hrL := hr.upto m hmn
  have hrL3 := hr3.upto m3 hmn3
  generalize l.take m = L at hrL
  generalize l3.take m3 = L3 at hrL3
  clear hr hr3
  have hmc : m ≤ c := by omega
  have hmc3 : m3 ≤ c3 := by omega
  have hL := Lib.hid hrL.len
  have hL3 := Lib.hid hrL3.len
  go_enter Try.func8, Try.ntmps8
  go_wp2_with fail
  refine (make_any _).mono ?_
  rintro e w1 ⟨rfl, ht, hb1⟩
  have Ht := Lib.hid ht
  clear ht
  go_wp2_with (first
    | (at_builtin; refine wpList_append_bytes rfl (.tmp 17) (.tmp 22) rfl w1.heap.size w1 _ [] rfl OwnB.newEmpty A m c L rfl ((hrL.ext hb1).ext (below_new _ _)) (by simp; omega) (below_new _ _) (by simp) m (by simp) ?_; intro A2 c2 w2 hown2 hb2 hB2; rw [List.nil_append] at hown2)
    | (at_builtin; refine wpList_append_more rfl (.tmp 24) (.tmp 25) rfl w1.heap.size w1 _ L rfl (World.ownsRow.alloc (by have e := hown2.out; unfold OwnB at e; exact e) _) (some ⟨w2.heap.size, 0, none⟩) 4 4 [1, 2, 3, 4] rfl (RdB.const w2 [1, 2, 3, 4] _ rfl 5 (0, 0) 4 rfl (by omega)) (by rw [hL.out]; omega) (hb2.alloc hB2 _) (by simp; omega) (m + 4) (by rw [hL.out]) (by omega) ?_; intro g3 cap3 w3 hg3 hroom3 hcb3 hown3 hb3 hB3)
    | (at_builtin; refine wpList_append_more rfl (.tmp 27) (.tmp 32) rfl w1.heap.size w1 _ (L ++ [1, 2, 3, 4]) rfl (hown3.out.own hg3 (m + 4) (by rw [List.length_append, hL.out]; rfl)) A3 m3 c3 L3 rfl ((hrL3.ext hb1).ext hb3) (by rw [List.length_append, hL.out]; simp; omega) hb3 hB3 (m + 4 + m3) (by rw [List.length_append, hL.out]; rfl) (by omega) ?_; intro g4 cap4 w4 hg4 hroom4 hcb4 hown4 hb4 hB4)
    | (at_builtin; refine wpList_append_more rfl (.tmp 34) (.tmp 35) rfl w4.heap.size w4 _ [] rfl OwnB.newEmpty (some ⟨g4, 0, none⟩) (m + 4 + m3) cap4 _ rfl ((hown4.out.ext (below_new _ _)).whole (m + 4 + m3) cap4 (by rw [List.length_append, List.length_append, hL.out, hL3.out]; rfl) hroom4 hcb4) (by simp; omega) (below_new _ _) (by simp) (m + 4 + m3) (by simp) (by omega) ?_; intro g5 cap5 w5 hg5 hroom5 hcb5 hown5 hb5 hB5; rw [List.nil_append] at hown5))
  obtain ⟨M, hM⟩ : ∃ M, M = L ++ [1, 2, 3, 4] ++ L3 := ⟨_, rfl⟩
  rw [← hM] at hown5 hown4
  have HMl : Hid (M.length = m + 4 + m3) := by rw [hM, List.length_append, List.length_append, hL.out, hL3.out]; rfl
  clear hM
  refine (within_nat _ _ _ (by omega) (by omega) hz1 hz2).mono ?_
  rintro e w2' ⟨k, rfl, hk, rfl⟩
  go_wp2_with fail
  go_loopw [13] (fun i wr => ∃ j : Nat, j ≤ 4 ∧ i = .int .i64 j ∧ Hid (OwnAt wr g5 cap5 (mixTo M k x j)) ∧ Below w4.heap.size w4 wr) (fun i _ => 4 - (intOf i).toNat)
  case atStart => exact ⟨0, by omega, rfl, hown5, hb5⟩
  case round =>
    obtain ⟨j, hj, rfl, hown6, hb6⟩ := hrel
    by_cases hlt : j < 4
    · obtain ⟨y, hy, hcy⟩ := hown6.out.get (i := k + j) (by rw [mixTo_len, HMl.out]; omega)
      have hf := hown6.out.thaw (k + j)
      have hkj : (k : Int) + j < m + 4 + m3 := by omega
      have hj4 : j = 0 ∨ j = 1 ∨ j = 2 ∨ j = 3 := by omega
      rcases hj4 with rfl | rfl | rfl | rfl
      · rw [Nat.add_zero] at hcy hf
        have H4 := Lib.hid (mix_step hown6.out hy.out (lowB x) (by unfold byteOf; rfl)).drew1
        go_wp2
        go_region
        go_wp2
        go_roundw
        case rel => exact ⟨1, by omega, by go_num, H4, below_drew1 (hb6.setCell hg5 _)⟩
        case measure => simp [intOf]
      · have H4 := Lib.hid (mix_step hown6.out hy.out (lowB (x >>> 8)) (by unfold byteOf; rfl)).drew1
        go_wp2
        go_region
        go_wp2
        go_roundw
        case rel => exact ⟨2, by omega, by go_num, H4, below_drew1 (hb6.setCell hg5 _)⟩
        case measure => simp [intOf]
      · have H4 := Lib.hid (mix_step hown6.out hy.out (lowB (x >>> 16)) (by unfold byteOf; rfl)).drew1
        go_wp2
        go_region
        go_wp2
        go_roundw
        case rel => exact ⟨3, by omega, by go_num, H4, below_drew1 (hb6.setCell hg5 _)⟩
        case measure => simp [intOf]
      · have H4 := Lib.hid (mix_step hown6.out hy.out (lowB (x >>> 24)) (by unfold byteOf; rfl)).drew1
        go_wp2
        go_region
        go_wp2
        go_roundw
        case rel => exact ⟨4, by omega, by go_num, H4, below_drew1 (hb6.setCell hg5 _)⟩
        case measure => simp [intOf]
    · have hj4 : j = 4 := by omega
      subst hj4
      have HB := Lib.hid hb6
      have Hlaw : Hid (on 0#32 (mixTo M k x 4) = on 0#32 M ↔ x = 0#32) := by
        rw [mixTo_burst _ _ _ (by rw [HMl.out]; omega)]
        exact burst_on _ _ _ _ (by rw [HMl.out]; omega)
      have HbA : Hid (Below w.heap.size w wr) := hb1.trans ((hb4.trans (hb6.mono hB4)).mono hb1.size)
      have HRa := Lib.hid ((hown4.out.ext hb6).whole (m + 4 + m3) cap4 HMl.out.symm hroom4 hcb4)
      have HRc := Lib.hid (hown6.out.whole (m + 4 + m3) cap5 (by rw [mixTo_len]; exact HMl.out.symm) hroom5 hcb5)
      have HT := Lib.hid ((Ht.out.ext hb4).ext hb6)
      clear hb6
      go_wp2_with fail
      refine (sum_any _ _ _ _ _ _ HT.out HRa.out).mono ?_
      rintro e w6' ⟨rfl, rfl⟩
      go_wp2_with fail
      refine (sum_any _ _ _ _ _ _ HT.out HRc.out).mono ?_
      rintro e w6' ⟨rfl, rfl⟩
      by_cases hx : x = 0#32
      · have hxx := Hlaw.out.2 hx
        rw [hxx]
        subst hx
        have ex : w32 0#32 = 0 := rfl
        clear hxx
        go_wp2_with fail
        refine (crcRuns_any _).mono ?_
        rintro e w7 ⟨rfl, hb7⟩
        go_wp2_with fail
        go_ret
        exact ⟨rfl, HbA.out.trans (hb7.mono HbA.out.size)⟩
      · have t1 : (w32 (on 0#32 M) == w32 (on 0#32 (mixTo M k x 4))) = false := by
          rw [beq_eq_false_iff_ne]; intro e; exact hx (Hlaw.out.1 (w32_inj e).symm)
        have t2 : (w32 x == 0) = false := by
          rw [beq_eq_false_iff_ne]; intro e; exact hx (w32_inj (b := 0#32) e)
        clear hx
        go_wp2_with fail
        refine (crcRuns_any _).mono ?_
        rintro e w7 ⟨rfl, hb7⟩
        go_wp2_with fail
        go_ret
        exact ⟨rfl, HbA.out.trans (hb7.mono HbA.out.size)⟩
end Go.Proofs.Ytljpefpdpgalgaa
