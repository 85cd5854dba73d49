import Derived.Test.YtkdlofgfkfhofaaGreatDoorP15
import Derived.Test.YtkdlofgfkfhofaaGreatDoorP12
/-
  volume: filled.
-/
namespace Go.Proofs.YtkdlofgfkfhofaaGreatDoor
open Go.RowKit Go.Maps

theorem made_blks (k : Nat) : (madeCells (bvs blank).toArray (k * 108)).toList = (List.replicate k blank).flatMap bvs := by
  have hz : (bvs blank).toArray.size = 108 := by simp [bvs_len, blank_len]
  apply List.ext_getElem?
  intro i
  have hfl : ((List.replicate k blank).flatMap bvs).length = k * 108 := by
    rw [List.length_flatMap]
    simp [bvs_len, blank_len]
  by_cases hi : i < k * 108
  · have h1 := flat_getM bvs 108 (List.replicate k blank) (fun x hx => by rw [List.eq_of_mem_replicate hx, bvs_len, blank_len]) (i / 108) (i % 108) blank (by rw [List.getElem?_replicate, if_pos (by omega)]) (by omega)
    rw [show i / 108 * 108 + i % 108 = i by omega] at h1
    rw [h1]
    unfold madeCells
    rw [Array.toList_map, List.getElem?_map, Array.toList_range, List.getElem?_range hi, hz]
    show some ((bvs blank).toArray[i % 108]!) = _
    rw [getElem!_pos _ _ (by rw [hz]; omega), ← List.getElem?_toArray]
    exact (Array.getElem?_eq_getElem _).symm
  · rw [List.getElem?_eq_none (by rw [Array.length_toList, size_madeCells]; omega), List.getElem?_eq_none (by rw [hfl]; omega)]
def zeroBlks (k : Nat) : Obj := .cells (madeCells (bvs blank).toArray (k * 108)) 315
theorem mkK_run (k : Nat) (hk : k ≤ 8) (w : World) : (Instr.makeSlice 189 (.int .i64 (k : Int)) (.int .i64 (k : Int))).run Tryz.prog w = .ok (.slice (some ⟨w.heap.size, 0, none⟩) k k) (w.alloc (zeroBlks k)) := by
  obtain ⟨ii, hi0, hz0, hs0, hy0⟩ := info_parts info_blk
  have h := run_makeSlice (P := Tryz.prog) w 189 315 ii _ Tryz.underlying189 hi0 hz0 .i64 .i64 (k : Int) (k : Int) (by omega) (Int.le_refl _) (by rw [hs0, Int.toNat_natCast]; omega) (by rw [hy0]; omega) (by omega)
  rw [hs0, Int.toNat_natCast] at h
  exact h
theorem zeroBlks_own (k : Nat) (hk : k ≤ 8) (w : World) : OwnKs (w.alloc (zeroBlks k)) w.heap.size (.slice (some ⟨w.heap.size, 0, none⟩) k k) (List.replicate k blank) := by
  refine ⟨?_, .inr ⟨w.heap.size, k, _, by rw [List.length_replicate], Nat.le_refl _, heap_alloc_new w _, by rw [List.length_replicate]; omega, by unfold maxLen; omega, ?_, ?_⟩⟩
  · rw [← made_blks, List.length_replicate, Array.length_toList, size_madeCells]
  · rw [size_madeCells]
  · rw [List.length_replicate, made_blks, List.take_of_length_le]
    rw [← made_blks, Array.length_toList, size_madeCells]
    omega
def zeroL (k : Nat) : List (List UInt8) := List.replicate k blank
/-- a stripe's frame as it is made -/
def frm1 (k s d : Nat) : Frm := frmS k s 1 (zeroL k) d
theorem frm1_right {k s d : Nat} (hd : d < 8) (hs : s < 64) : (frm1 k s d).right = true := by
  unfold frm1 frmS Frm.right inB
  simp
  omega
/-- the sectors of a volume under way: so many slots, stripes, superblocks -/
def volW (W : Nat → Nat → List UInt8) (c : CfgM) (k a b d : Nat) (l : Nat) : Nat → Nat → List UInt8 := fun j t =>
  if t = 0 then (if j < d then putF (c.block j) else W j t)
  else if t < 1 + a * k then putF (blkF ((t - 1) % k))
  else if 1 + l * k ≤ t ∧ t < 1 + l * k + b then putF (frm1 k (t - (1 + l * k)) j)
  else W j t
theorem volW_blank (W : Nat → Nat → List UInt8) (c : CfgM) {k a l n j t : Nat} (hj : j < n) : blkW (volW W c k a 0 0 l) (1 + a * k) k n 0 j t = volW W c k (a + 1) 0 0 l j t := by
  have h1 : (a + 1) * k = a * k + k := Nat.add_one_mul a k
  unfold blkW volW
  by_cases h : 1 + a * k ≤ t ∧ t < 1 + a * k + k
  · rw [if_pos (.inl ⟨hj, h⟩), if_neg (by omega), if_pos (by omega)]
    congr 2
    have e : t - 1 = t - (1 + a * k) + a * k := by omega
    rw [e, Nat.add_mul_mod_self_right, Nat.mod_eq_of_lt (by omega)]
  · rw [if_neg (by omega)]
    by_cases h0 : t = 0
    · rw [if_pos h0, if_pos h0]
    · rw [if_neg h0, if_neg h0]
      by_cases h2 : t < 1 + a * k
      · rw [if_pos h2, if_pos (by omega)]
      · rw [if_neg h2, if_neg (by omega), if_neg (by omega)]
theorem volW_stripe (W : Nat → Nat → List UInt8) (c : CfgM) {k b l n j t : Nat} (hj : j < n) : strW (volW W c k l b 0 l) (1 + l * k + b) n (frm1 k b) j t = volW W c k l (b + 1) 0 l j t := by
  unfold strW volW
  by_cases h : t = 1 + l * k + b
  · subst h
    rw [if_pos ⟨hj, rfl⟩, if_neg (by omega), if_neg (by omega), if_pos (by omega), Nat.add_sub_cancel_left]
  · rw [if_neg (fun x => h x.2)]
    by_cases h0 : t = 0
    · rw [if_pos h0, if_pos h0]
    · rw [if_neg h0, if_neg h0]
      by_cases h2 : t < 1 + l * k
      · rw [if_pos h2, if_pos h2]
      · rw [if_neg h2, if_neg h2]
        by_cases h3 : 1 + l * k ≤ t ∧ t < 1 + l * k + b
        · rw [if_pos h3, if_pos (by omega)]
        · rw [if_neg h3, if_neg (by omega)]
theorem volW_super (W : Nat → Nat → List UInt8) (c : CfgM) {k a b d l j t : Nat} : putS (volW W c k a b d l) d 0 (putF (c.block d)) j t = volW W c k a b (d + 1) l j t := by
  unfold putS volW
  by_cases h0 : t = 0
  · rw [if_pos h0, if_pos h0]
    by_cases h1 : j = d
    · subst h1
      rw [if_pos ⟨rfl, h0⟩, if_pos (by omega)]
    · rw [if_neg (fun x => h1 x.1)]
      by_cases h2 : j < d
      · rw [if_pos h2, if_pos (by omega)]
      · rw [if_neg h2, if_neg (by omega)]
  · rw [if_neg (fun x => h0 x.2), if_neg h0, if_neg h0]
theorem volW_zero (W : Nat → Nat → List UInt8) (c : CfgM) {k l j t : Nat} : W j t = volW W c k 0 0 0 l j t := by
  unfold volW
  by_cases h0 : t = 0
  · rw [if_pos h0, if_neg (by omega)]
  · rw [if_neg h0, if_neg (by omega), if_neg (by omega)]
attribute [local go_sem ↓] ldCf_eq
set_option maxRecDepth 100000 in
set_option maxHeartbeats 4000000 in
theorem vFilled_any {w : World} {o : Nat → Option Nat} {r n S : Nat} {W : Nat → Nat → List UInt8} (h : StoAt w o r n S W) {c : CfgM} (hc : c.At n S) {k l m : Nat} (hk : c.k = (k : Int)) (hl : c.slots = (l : Int)) (hm : c.stripes = (m : Int)) :
    Calls Tryz.prog 53 #[.pointer (some ⟨r, 0, none⟩), .agg #[.int .i64 c.id, .int .i64 c.k, .int .i64 c.n, .int .i64 c.stripes, .int .i64 c.slots]] w fun e w' => e = .returned .nilIface ∧ ∃ o', StoP w o r n S (volW W c k l m n l) o' w' := by
  have hk0 := Bk.made w 25 #[.int .i64 c.id, .int .i64 c.k, .int .i64 c.n, .int .i64 c.stripes, .int .i64 c.slots]
  have hb0 := below_new w (.cells #[.int .i64 c.id, .int .i64 c.k, .int .i64 c.n, .int .i64 c.stripes, .int .i64 c.slots] 25)
  have hn8 := h.lt
  have HP0 := Lib.hid ((StoP.refl h).ext hb0)
  have HC0 := Lib.hid (show Own1 o (w.alloc (.cells #[.int .i64 c.id, .int .i64 c.k, .int .i64 c.n, .int .i64 c.stripes, .int .i64 c.slots] 25)) w.heap.size 25 #[.int .i64 c.id, .int .i64 c.k, .int .i64 c.n, .int .i64 c.stripes, .int .i64 c.slots] from ⟨hk0, h.newO (Nat.le_refl _)⟩)
  have HK := Lib.hid hk
  have HL := Lib.hid hl
  have HM := Lib.hid hm
  have HCa := Lib.hid hc
  have hl4 : l ≤ 4 := by have := (CfgM.right_in hc.right).l2; omega
  have hm64 : m ≤ 64 := by have := (CfgM.right_in hc.right).s2; omega
  have HIn := Lib.hid (CfgM.right_in hc.right)
  clear hk hl hm hc h hk0 hb0
  go_enter Tryz.func53, Tryz.ntmps53
  go_wp2_with fail
  generalize w.alloc (.cells #[.int .i64 c.id, .int .i64 c.k, .int .i64 c.n, .int .i64 c.stripes, .int .i64 c.slots] 25) = W1 at HP0 HC0 ⊢
  go_loopw [13] (fun i wr => ∃ (a : Nat) (o1 : Nat → Option Nat), a ≤ l ∧ i = .int .i64 a ∧ Hid (StoP w o r n S (volW W c k a 0 0 l) o1 wr) ∧ Hid (Own1 o1 wr w.heap.size 25 #[.int .i64 c.id, .int .i64 c.k, .int .i64 c.n, .int .i64 c.stripes, .int .i64 c.slots])) (fun i _ => l - (intOf i).toNat)
  case atStart => exact ⟨0, o, Nat.zero_le _, rfl, HP0.out.same (fun j t _ => volW_zero W c), HC0⟩
  case round =>
    obtain ⟨a, o1, ha, rfl, hP, hC⟩ := hrel
    clear HP0 HC0
    by_cases hlt : a < l
    · have hi : (a : Int) < c.slots := by rw [HL.out]; omega
      have hld := ldCf_bk hC.out.1
      go_wp2_with fail
      with_reducible refine (jBlank_any hP.out.at_ HCa.out HK.out hi rfl).mono ?_
      rintro er w2 ⟨rfl, o2, hp2⟩
      have HP2 := Lib.hid (hP.out.then hp2)
      have HC2 := Lib.hid (hC.out.step hp2)
      clear hp2 hld
      go_wp2_with fail
      exact ⟨⟨a + 1, o2, by omega, by go_num, HP2.out.same (fun j t hj => volW_blank W c hj), HC2⟩, by simp [intOf]; omega⟩
    · have hal : a = l := by omega
      subst hal
      have hi : ¬ (a : Int) < c.slots := by rw [HL.out]; omega
      have c3 : wr.cell? ⟨w.heap.size, 3, none⟩ = some (.int .i64 c.stripes) := hC.out.1.cell 3
      go_wp2_with fail
      clear c3
      obtain ⟨wo, rfl⟩ : ∃ wo, wo = wr := ⟨_, rfl⟩
      go_loopw [26] (fun i wr => ∃ (b : Nat) (o1 : Nat → Option Nat), b ≤ m ∧ i = .int .i64 b ∧ Hid (StoP w o r n S (volW W c k a b 0 a) o1 wr) ∧ Hid (Own1 o1 wr w.heap.size 25 #[.int .i64 c.id, .int .i64 c.k, .int .i64 c.n, .int .i64 c.stripes, .int .i64 c.slots])) (fun i _ => m - (intOf i).toNat)
      case atStart => exact ⟨0, o1, Nat.zero_le _, rfl, hP, hC⟩
      case round =>
        obtain ⟨b, o2, hb, rfl, hP2, hC2⟩ := hrel
        clear hP hC
        by_cases hlt2 : b < m
        · have hi2 : (b : Int) < c.stripes := by rw [HM.out]; omega
          have FS : Hid (∀ v, Turned (fun b => o2 b ≠ none) wr v → (ldCf (.pointer (some ⟨w.heap.size, 0, none⟩))).run Tryz.prog v = .ok (.agg #[.int .i64 c.id, .int .i64 c.k, .int .i64 c.n, .int .i64 c.stripes, .int .i64 c.slots]) v ∧ v.cell? ⟨w.heap.size, 1, none⟩ = some (.int .i64 c.k)) := fun v hv => ⟨ldCf_bk (hC2.out.1.turned hv fun h => h hC2.out.2), (hC2.out.1.turned hv fun h => h hC2.out.2).cell 1⟩
          have B0 : Hid (Below wr.heap.size wr wr.drew) := below_drew1 (Below.refl _ _)
          have B1 : Hid (Below wr.heap.size wr (wr.alloc (zeroBlks k)).drew) := below_drew1 (below_new _ _)
          have hk8 : k ≤ 8 := by have := HIn.out.k2; have := HIn.out.n2; have := HK.out; omega
          have hmk : (Instr.makeSlice 189 (.int .i64 c.k) (.int .i64 c.k)).run Tryz.prog wr.drew = .ok (.slice (some ⟨wr.heap.size, 0, none⟩) k k) (wr.drew.alloc (zeroBlks k)) := by
            rw [HK.out]
            exact mkK_run k hk8 wr.drew
          have HPu : Hid (Calls Tryz.prog 98 #[.pointer (some ⟨r, 0, none⟩), .agg #[.int .i64 c.id, .int .i64 c.k, .int .i64 c.n, .int .i64 c.stripes, .int .i64 c.slots], .int .i64 b, .int .i64 1, .slice (some ⟨wr.heap.size, 0, none⟩) k k] (wr.alloc (zeroBlks k)).drew fun e w' => e = .returned .nilIface ∧ ∃ o', StoP (wr.alloc (zeroBlks k)).drew o2 r n S (strW (volW W c k a b 0 a) (1 + a * k + b) n (frm1 k b)) o' w') := by
            obtain ⟨A', c', e, hrd⟩ := (zeroBlks_own k hk8 wr).rd (fun x hx => by rw [List.eq_of_mem_replicate hx]; exact blank_len)
            injection e with e1 e2 e3
            subst e1
            refine sPut_any (gen := 1) (hP2.out.at_.ext B1.out) HCa.out HK.out hi2 ?_ (hrd.ext (below_drew1 (Below.refl _ _))) (List.length_replicate ..) (by omega) (by omega) (fun d hd => frm1_right (by omega) (by omega))
            unfold sectorS
            rw [HK.out, HL.out]
            push_cast
            rfl
          go_upto_region 11 with fail
          go_region_held3 (fun v => (ldCf (.pointer (some ⟨w.heap.size, 0, none⟩))).run Tryz.prog v = .ok (.agg #[.int .i64 c.id, .int .i64 c.k, .int .i64 c.n, .int .i64 c.stripes, .int .i64 c.slots]) v ∧ v.cell? ⟨w.heap.size, 1, none⟩ = some (.int .i64 c.k)) (first | exact FS.out _ (Turned.of_below B0.out) | exact FS.out _ (Turned.of_below B1.out) | exact FS.out _ P2.out.turned | fail) (first | (go_at_call 98; go_loud ((with_reducible refine HPu.out.mono ?_); rintro er w2 ⟨rfl, o3, hp3⟩; have P2 := Lib.hid (StoP.from_ B1.out hp3); clear hp3)) | fail)
          go_wp2_with fail
          exact ⟨⟨b + 1, o3, by omega, by go_num, (hP2.out.then P2.out).same (fun j t hj => volW_stripe W c hj), hC2.out.step P2.out⟩, by simp [intOf]; omega⟩
        · have hbm : b = m := by omega
          subst hbm
          have hi2 : ¬ (b : Int) < c.stripes := by rw [HM.out]; omega
          go_wp2_with fail
          with_reducible refine (stoN hP2.out.at_).mono ?_
          rintro er w2 ⟨rfl, rfl⟩
          go_wp2_with fail
          obtain ⟨wo2, rfl⟩ : ∃ wo2, wo2 = w2 := ⟨_, rfl⟩
          go_loopw [42] (fun i wr => ∃ (d : Nat) (o1 : Nat → Option Nat), d ≤ n ∧ i = .int .i64 d ∧ Hid (StoP w o r n S (volW W c k a b d a) o1 wr) ∧ Hid (Own1 o1 wr w.heap.size 25 #[.int .i64 c.id, .int .i64 c.k, .int .i64 c.n, .int .i64 c.stripes, .int .i64 c.slots])) (fun i _ => n - (intOf i).toNat)
          case atStart => exact ⟨0, o2, Nat.zero_le _, rfl, hP2, hC2⟩
          case round =>
            obtain ⟨d, o3, hd, rfl, hP3, hC3⟩ := hrel
            clear hP2 hC2
            by_cases hlt3 : d < n
            · have hi3 : (d : Int) < n := by omega
              have hld := ldCf_bk hC3.out.1
              go_wp2_with fail
              with_reducible refine (stoSuper hP3.out.at_ HCa.out hlt3).mono ?_
              rintro er w5 ⟨rfl, o5, hp5⟩
              have HP5 := Lib.hid (hP3.out.then hp5)
              have HC5 := Lib.hid (hC3.out.step hp5)
              clear hp5 hld
              go_wp2_with fail
              exact ⟨⟨d + 1, o5, by omega, by go_num, HP5.out.same (fun j t _ => volW_super W c), HC5⟩, by simp [intOf]; omega⟩
            · have hdn : d = n := by omega
              have hi3 : ¬ (d : Int) < n := by omega
              go_wp2_with fail
              go_ret
              rw [hdn] at hP3
              exact ⟨rfl, o3, hP3.out⟩
end Go.Proofs.YtkdlofgfkfhofaaGreatDoor

/-
  volume: Make.
-/
namespace Go.Proofs.YtkdlofgfkfhofaaGreatDoor
open Go.RowKit Go.Maps

attribute [local go_sem ↓] ldCf_eq
set_option maxRecDepth 100000 in
set_option maxHeartbeats 4000000 in
theorem vMake_any {w : World} {o : Nat → Option Nat} {r n S : Nat} {W : Nat → Nat → List UInt8} (h : StoAt w o r n S W) {c : CfgM} (hc : c.At n S) {k l m : Nat} (hk : c.k = (k : Int)) (hl : c.slots = (l : Int)) (hm : c.stripes = (m : Int)) :
    Calls Tryz.prog 23 #[.pointer (some ⟨r, 0, none⟩), .agg #[.int .i64 c.id, .int .i64 c.k, .int .i64 c.n, .int .i64 c.stripes, .int .i64 c.slots]] w fun e w' => e = .returned .nilIface ∧ ∃ o', StoP w o r n S (volW (bareW W n) c k l m n l) o' w' := by
  have hk0 := Bk.made w 25 #[.int .i64 c.id, .int .i64 c.k, .int .i64 c.n, .int .i64 c.stripes, .int .i64 c.slots]
  have hb0 := below_new w (.cells #[.int .i64 c.id, .int .i64 c.k, .int .i64 c.n, .int .i64 c.stripes, .int .i64 c.slots] 25)
  have HP0 := Lib.hid ((StoP.refl h).ext hb0)
  have HC0 := Lib.hid (show Own1 o (w.alloc (.cells #[.int .i64 c.id, .int .i64 c.k, .int .i64 c.n, .int .i64 c.stripes, .int .i64 c.slots] 25)) w.heap.size 25 #[.int .i64 c.id, .int .i64 c.k, .int .i64 c.n, .int .i64 c.stripes, .int .i64 c.slots] from ⟨hk0, h.newO (Nat.le_refl _)⟩)
  have HK := Lib.hid hk
  have HL := Lib.hid hl
  have HM := Lib.hid hm
  have HCa := Lib.hid hc
  have hld0 := ldCf_bk hk0
  clear hk hl hm hc h hk0 hb0
  go_enter Tryz.func23, Tryz.ntmps23
  go_wp2_with fail
  generalize w.alloc (.cells #[.int .i64 c.id, .int .i64 c.k, .int .i64 c.n, .int .i64 c.stripes, .int .i64 c.slots] 25) = W1 at HP0 HC0 hld0 ⊢
  with_reducible refine (stoFits HP0.out.at_ HCa.out).mono ?_
  rintro er w1 ⟨rfl, hb1⟩
  have HP1 := Lib.hid (HP0.out.ext hb1)
  have HC1 := Lib.hid (HC0.out.ext hb1)
  clear hb1 HP0 HC0 hld0
  go_wp2_with fail
  have FS : Hid (∀ v, Below w1.heap.size w1 v → v.cell? ⟨w.heap.size, 2, none⟩ = some (.int .i64 c.n)) := fun v hv => (HC1.out.1.ext hv).cell 2
  have B0 : Hid (Below w1.heap.size w1 w1.drew) := below_drew1 (Below.refl _ _)
  go_region_held3 (fun v => v.cell? ⟨w.heap.size, 2, none⟩ = some (.int .i64 c.n)) (first | exact FS.out _ B0.out | exact FS.out _ B5.out | fail) (first | (go_at_call 47; go_loud ((with_reducible refine (stoOff (HP1.out.at_.ext B0.out)).mono ?_); rintro er w4 ⟨rfl, rfl⟩)) | (go_at_call 48; go_loud ((with_reducible refine (stoOnline (HP1.out.at_.ext B0.out)).mono ?_); rintro er w5 ⟨v5, rfl, hv5, hb5⟩; have B5 := Lib.hid (B0.out.trans (below_le B0.out.size hb5)); obtain ⟨A5, cp5, hA5, hcl5⟩ := hv5.open_; rw [upto_len] at hA5; subst hA5; clear hcl5 hv5 hb5)) | fail)
  have HP5 := Lib.hid (HP1.out.ext B5.out)
  have HC5 := Lib.hid (HC1.out.ext B5.out)
  have hnk : ¬ (n : Int) < c.n := by have := HCa.out.nE; omega
  have hd0 : decide ((n : Int) < c.n) = false := decide_eq_false (by have := HCa.out.nE; omega)
  clear B0 B5 FS HP1 HC1
  go_wp2_with fail
  with_reducible refine (vBare_any HP5.out.at_).mono ?_
  rintro er w6 ⟨rfl, o6, hp6⟩
  have HP6 := Lib.hid (HP5.out.then hp6)
  have HC6 := Lib.hid (HC5.out.step hp6)
  have hld6 := ldCf_bk HC6.out.1
  clear hp6 HP5 HC5 hd0 hnk
  go_wp2_with fail
  with_reducible refine (vFilled_any HP6.out.at_ HCa.out HK.out HL.out HM.out).mono ?_
  rintro er w7 ⟨rfl, o7, hp7⟩
  have HP7 := Lib.hid (HP6.out.then hp7)
  clear hp7 HP6 HC6 hld6
  go_wp2_with (first | (go_at_call 39; go_loud ((with_reducible refine (wrap_nil _ _ _).mono ?_); rintro er w3 ⟨rfl, rfl⟩)) | fail)
  go_ret
  exact ⟨rfl, o7, HP7.out⟩
end Go.Proofs.YtkdlofgfkfhofaaGreatDoor

/-
  journal: goods (of a blank slot's place), on a good rack.
-/
namespace Go.Proofs.YtkdlofgfkfhofaaGreatDoor
open Go.RowKit Go.Maps

attribute [local go_sem ↓] ldCf_eq ldFr_eq stFr_eq bsF_eq
set_option maxRecDepth 100000 in
set_option maxHeartbeats 4000000 in
theorem jGoods_blank {w : World} {o : Nat → Option Nat} {r n S : Nat} {W : Nat → Nat → List UInt8} (h : StoAt w o r n S W) {c : CfgM} (hc : c.At n S) {k s sec : Nat} (hk : c.k = (k : Int)) (hs : (s : Int) < c.slots) (hsc : sec = 1 + s * k) {i0 : Nat} (hi : i0 < k) (hW : ∀ d, d < n → W d (sec + i0) = putF (blkF i0)) :
    Calls Tryz.prog 214 #[.pointer (some ⟨r, 0, none⟩), .agg #[.int .i64 c.id, .int .i64 c.k, .int .i64 c.n, .int .i64 c.stripes, .int .i64 c.slots], .int .i64 s, .int .i64 i0] w fun e w' => ∃ v, e = .returned v ∧ OwnF w' w.heap.size v (List.replicate n (blkF i0)) ∧ Below w.heap.size w w' := by
  have HGo := Lib.hid (fun v => fun hv : Below w.heap.size w v => fun d : Nat => fun hd : d < n => jGood_blank (h.ext hv) hc hk hs hsc hd hi (hW d hd))
  have hn := hc.nE
  have hn8 := h.lt
  have hk0 := Bk.made w 25 #[.int .i64 c.id, .int .i64 c.k, .int .i64 c.n, .int .i64 c.stripes, .int .i64 c.slots]
  have hb0 := below_new w (.cells #[.int .i64 c.id, .int .i64 c.k, .int .i64 c.n, .int .i64 c.stripes, .int .i64 c.slots] 25)
  have HN := Lib.hid hn
  have hz := zero_frm
  obtain ⟨ii, hi0, hz0, hs0, hy0⟩ := info_parts info_frm
  have HI := Lib.hid hi0
  have HZ := Lib.hid hz0
  have HSz := Lib.hid hs0
  have HY := Lib.hid hy0
  clear hi0 hz0 hs0 hy0
  have HB0 := Lib.hid hb0
  have HK0 := Lib.hid hk0
  clear hk hs hsc hk0 hb0 hc h hi hW hn
  go_enter Tryz.func214, Tryz.ntmps214
  go_wp2_with fail
  generalize w.alloc (.cells #[.int .i64 c.id, .int .i64 c.k, .int .i64 c.n, .int .i64 c.stripes, .int .i64 c.slots] 25) = W1 at HB0 HK0 ⊢
  go_loopw [9, 15] (fun v i wr => ∃ j : Nat, j ≤ n ∧ i = .int .i64 j ∧ Hid (OwnF wr w.heap.size v (List.replicate j (blkF i0))) ∧ Hid (Bk wr w.heap.size 25 #[.int .i64 c.id, .int .i64 c.k, .int .i64 c.n, .int .i64 c.stripes, .int .i64 c.slots]) ∧ Hid (Below w.heap.size w wr)) (fun _ i _ => n - (intOf i).toNat)
  case atStart => exact ⟨0, Nat.zero_le _, rfl, World.ownsRow_nil _ _ _ _, HK0, HB0⟩
  case round =>
    obtain ⟨j, hj, rfl, hv, hC, hB⟩ := hrel
    clear HK0 HB0
    by_cases hlt : j < n
    · have hi : (j : Int) < c.n := by rw [HN.out]; omega
      have hld := ldCf_bk hC.out
      obtain ⟨A9, c9, hA, hcl⟩ := OwnF.open_ hv.out (fun f hf => by rw [List.eq_of_mem_replicate hf]; exact blkF_len i0)
      rw [List.length_replicate] at hA
      subst hA
      clear hcl
      go_wp2_with fail
      with_reducible refine (HGo.out _ hB.out j hlt).mono ?_
      rintro er w2 ⟨rfl, hb2⟩
      have hst := stFr_new w2 zeroF (blkF i0) blank_len (blkF_len i0)
      have hb3 := below_new w2 (.cells (blkF i0).cells 273)
      have hkf := Bk.made w2 273 (blkF i0).cells
      have hB3 := (hB.out.trans (below_le hB.out.size hb2)).trans (below_le (Nat.le_trans hB.out.size hb2.size) hb3)
      have hC3 := (hC.out.ext hb2).ext hb3
      have hv3 : w2.alloc (.cells (blkF i0).cells 273) |>.ownsRow w.heap.size 273 112 (.slice A9 j c9) j ((List.replicate j (blkF i0)).flatMap fun f => f.cells.toList) := by
        have h := hv.out
        unfold OwnF at h
        rw [List.length_replicate] at h
        exact own_turned (P := fun _ => False) (own_turned (P := fun _ => False) h (Turned.of_below hb2) (fun _ _ => id)) (Turned.of_below hb3) (fun _ _ => id)
      obtain ⟨w3, hw3⟩ : ∃ w3, w2.alloc (.cells (blkF i0).cells 273) = w3 := ⟨_, rfl⟩
      rw [hw3] at hst hkf hB3 hC3 hv3
      have hld3 := ldFr_bk hkf (blkF_len i0)
      have HB3 := Lib.hid hB3
      have HC3 := Lib.hid hC3
      have HV3 := Lib.hid hv3
      have hbs := bsF_run (blkF_len i0) w3
      have hb4 := below_new w3 (.cells (blkF i0).cells 273)
      have HB4 := Lib.hid (hB3.trans (below_le hB3.size hb4))
      have HC4 := Lib.hid (hC3.ext hb4)
      have HV4 := Lib.hid (own_turned (P := fun _ => False) hv3 (Turned.of_below hb4) (fun _ _ => id))
      have HCn := Lib.hid (cells_newF w3 (blkF i0))
      have hL4 : (w3.alloc (.cells (blkF i0).cells 273)).heap.size = w3.heap.size + 1 := by simp
      obtain ⟨w4, hw4⟩ : ∃ w4, w3.alloc (.cells (blkF i0).cells 273) = w4 := ⟨_, rfl⟩
      rw [hw4] at hbs HB4 HC4 HV4 HCn hL4
      have hg0 : w.heap.size < w3.heap.size := HC3.out.lt
      have HG0 : Hid (w.heap.size < w4.heap.size) := by rw [hL4]; exact Nat.lt_succ_of_lt hg0
      clear hb2 hb3 hkf hB3 hC3 hv3 hw3 hv hC hB hld hw4 hb4 hL4 hg0
      go_wp2_with (first | (at_builtin; go_loud (refine wpList_append_gen rfl (.tmp 28) (.tmp 30) 266 rfl 273 ii _ 112 144 Tryz.underlying266 HI.out HZ.out HSz.out HY.out zf_size (by omega) w.heap.size w _ j _ rfl HV4.out ⟨w3.heap.size, 0, none⟩ 1 1 (blkF i0).cells.toList rfl (by rw [Array.length_toList, Frm.size (blkF_len i0)]) HCn.out (frm_one _) (by unfold maxLen; omega) (by omega) HB4.out (Nat.le_of_lt HG0.out) ?_); intro A5 c5 w5 ho5 hg5 hob5 hb5 hs5) | fail)
      have hC5 := HC4.out.grown hg5.out (fun e => own_notB HV4.out e.symm HC4.out rfl (by decide))
      have HN5 : Hid (OwnF w5 w.heap.size (.slice A5 (j + 1) c5) (List.replicate (j + 1) (blkF i0))) := by
        have h := ho5.out
        show w5.ownsRow _ _ _ _ (List.replicate (j + 1) (blkF i0)).length _
        rw [List.length_replicate, List.replicate_succ', List.flatMap_append]
        simpa using h
      exact ⟨⟨j + 1, by omega, by go_num, HN5, hC5, hb5⟩, by simp [intOf]; omega⟩
    · have hjn : j = n := by omega
      subst hjn
      have hi : ¬ (j : Int) < c.n := by rw [HN.out]; omega
      go_wp2_with fail
      go_ret
      exact ⟨_, rfl, hv.out, hB.out⟩
end Go.Proofs.YtkdlofgfkfhofaaGreatDoor

/-
  journal: whole (of a blank slot).
-/
namespace Go.Proofs.YtkdlofgfkfhofaaGreatDoor
open Go.RowKit Go.Maps

/-- a slice of so many frames, all the same -/
def RdFr (w : World) (A : Option Addr) (n : Nat) (f : Frm) : Prop := ∀ j, j < n → ∃ g, A = some ⟨g, 0, none⟩ ∧ g < w.heap.size ∧ ∀ t, t < 112 → w.cell? ⟨g, j * 112 + t, none⟩ = f.cells[t]?
/-- a slice of such slices -/
def RdLl (w : World) (A : Option Addr) (m n : Nat) : Prop := ∀ i, i < m → ∃ g Ai ci, A = some ⟨g, 0, none⟩ ∧ g < w.heap.size ∧ w.cell? ⟨g, i, none⟩ = some (.slice Ai n ci) ∧ RdFr w Ai n (blkF i)
theorem cell_ext {w w' : World} {g j : Nat} (hb : Below w.heap.size w w') (hg : g < w.heap.size) : w'.cell? ⟨g, j, none⟩ = w.cell? ⟨g, j, none⟩ := by
  unfold World.cell?
  rw [hb.block g hg]
theorem RdFr.ext {w w' : World} {A : Option Addr} {n : Nat} {f : Frm} (h : RdFr w A n f) (hb : Below w.heap.size w w') : RdFr w' A n f := fun j hj => by
  obtain ⟨g, h1, h2, h3⟩ := h j hj
  exact ⟨g, h1, Nat.lt_of_lt_of_le h2 hb.size, fun t ht => (cell_ext hb h2).trans (h3 t ht)⟩
theorem RdLl.ext {w w' : World} {A : Option Addr} {m n : Nat} (h : RdLl w A m n) (hb : Below w.heap.size w w') : RdLl w' A m n := fun i hi => by
  obtain ⟨g, Ai, ci, h1, h2, h3, h4⟩ := h i hi
  exact ⟨g, Ai, ci, h1, Nat.lt_of_lt_of_le h2 hb.size, (cell_ext hb h2).trans h3, h4.ext hb⟩
/-- a record under way -/
structure RecW (w wr : World) (z i : Nat) (A : Option Addr) (c : Nat) : Prop where
  x : Bk wr (z + 1) 265 #[.int .i64 0, .int .i64 0, .slice A i c]
  row : ∃ xs, wr.ownsRow (z + 2) 315 108 (.slice A i c) i xs
  res : Bk wr z 265 #[.int .i64 0, .int .i64 0, .slice none 0 0]
  low : Below z w wr
theorem RecW.ext {w wr w' : World} {z i c : Nat} {A : Option Addr} (h : RecW w wr z i A c) (hb : Below wr.heap.size wr w') : RecW w w' z i A c := by
  obtain ⟨xs, h2⟩ := h.row
  exact ⟨h.x.ext hb, ⟨xs, own_turned (P := fun _ => False) h2 (Turned.of_below hb) (fun _ _ => id)⟩, h.res.ext hb, h.low.trans (below_le (Nat.le_of_lt h.res.lt) hb)⟩
def stRec (p v : Value) : Sem Unit := Instr.storeAt 265 p v
theorem stRec_eq (p v : Value) : Instr.storeAt 265 p v = stRec p v := rfl
theorem one_rec (a b : Int) (A : Option Addr) (m c : Nat) : (#[Value.int .i64 a, .int .i64 b, .slice A m c]).all (·.oneCell') = true :=
  all_oneCell_toArray (cs := [.int .i64 a, .int .i64 b, .slice A m c]) fun v hv => by
    simp only [List.mem_cons, List.mem_nil_iff, or_false] at hv
    rcases hv with rfl | rfl | rfl <;> rfl
theorem stRec_bk (w : World) (g : Nat) (old : Array Value) (ho : old.size = 3) (a b : Int) (A : Option Addr) (m c : Nat) (h : Bk w g 265 old) : (stRec (.pointer (some ⟨g, 0, none⟩)) (.agg #[.int .i64 a, .int .i64 b, .slice A m c])).run Tryz.prog w = .ok () (w.setRow g #[.int .i64 a, .int .i64 b, .slice A m c]) := by
  unfold stRec
  simp only [Instr.storeAt, Instr.sureAddr, Sem.run_bind, Sem.run_pure, Result.andThen_ok, run_storeVar_row _ _ _ _ old #[.int .i64 a, .int .i64 b, .slice A m c] h size_rec (by rw [ho]; rfl) (one_rec a b A m c)]
theorem stRec_new (w : World) (old : Array Value) (ho : old.size = 3) (a b : Int) (A : Option Addr) (m c : Nat) : (stRec (.pointer (some ⟨w.heap.size, 0, none⟩)) (.agg #[.int .i64 a, .int .i64 b, .slice A m c])).run Tryz.prog (w.alloc (.cells old 265)) = .ok () (w.alloc (.cells #[.int .i64 a, .int .i64 b, .slice A m c] 265)) :=
  run_storeAt_new w 265 _ _ size_rec (by rw [ho]; rfl) (one_rec a b A m c)
theorem res_rec {fn : Func} {p u : Tmp} (h : fn.results = #[.cell p 265, .tmp u]) (tmps : Array Value) (w : World) (g : Nat) (a b : Int) (A : Option Addr) (m c : Nat) (hp : tmps.getD p undef = .pointer (some ⟨g, 0, none⟩)) (hb : Bk w g 265 #[.int .i64 a, .int .i64 b, .slice A m c]) :
    (results fn tmps).run Tryz.prog w = .ok (.tuple #[.agg #[.int .i64 a, .int .i64 b, .slice A m c], tmps.getD u undef]) w := by
  rw [results_cell_tmp h, hp]
  simp only [asAddr, Sem.run_pure, Result.andThen_ok, run_loadVar_row w g _ _ _ (0, 0) _ hb Tryz.underlying265 rfl size_rec]
theorem own_ne {w : World} {n sz : Nat} {e : TypeId} {v : Value} {xs : List Value} {z : Nat} (h : w.ownsRow (z + 2) e sz v n xs) : ∀ g, g < z + 2 → some g ≠ v.ownBlock := fun g hg he => by
  have := (World.ownsRow.lt h g he.symm).1
  omega
theorem RecW.put {w w3 w5 : World} {z i c c5 : Nat} {A A5 : Option Addr} {row : Option Nat} {xs : List Value} (h : RecW w w3 z i A c) (h5 : Bk w5 (z + 1) 265 #[.int .i64 0, .int .i64 0, .slice A i c]) (hne : ∀ g, g < z + 2 → some g ≠ row) (ho : w5.ownsRow (z + 2) 315 108 (.slice A5 (i + 1) c5) (i + 1) xs) (hg : w3.grownBy w5 row) (hz : z + 2 ≤ w3.heap.size) :
    RecW w (w5.setCell ⟨z + 1, 2, none⟩ (.slice A5 (i + 1) c5)) z (i + 1) A5 c5 := by
  have hT : Turned (fun b => b = z + 1) w5 (w5.setCell ⟨z + 1, 2, none⟩ (.slice A5 (i + 1) c5)) := Turned.of_grown (grown_set w5 ⟨z + 1, 2, none⟩ _) (fun k e => (Option.some.inj e).symm)
  refine ⟨h5.put 2 _, ⟨_, own_turned ho hT fun g e => ?_⟩, (h.res.grown hg (hne z (by omega))).turned hT (by omega), ?_⟩
  · have := (World.ownsRow.lt ho g e).1
    omega
  · exact hT.below (h.low.grown hg (by omega) fun k hk => Nat.le_of_not_lt fun hl => hne k (by omega) hk.symm) (by have := hg.size; omega) (fun i e => by omega)
attribute [local go_sem ↓] ldFr_eq stFr_eq bsK_eq ldA8_eq ldRec_eq stRec_eq
set_option maxRecDepth 100000 in
set_option maxHeartbeats 4000000 in
theorem jWhole_blank {w : World} {A : Option Addr} {m n c : Nat} (h : RdLl w A m n) (hm : m ≤ 8) (hn : n ≤ 8) (hn1 : 1 ≤ n) :
    Calls Tryz.prog 215 #[.slice A m c, .int .i64 0] w fun e w' => ∃ A' c', e = .returned (.tuple #[.agg #[.int .i64 0, .int .i64 0, .slice A' m c'], .bool true]) ∧ Below w.heap.size w w' := by
  obtain ⟨W1, hW1⟩ : ∃ W1, (w.alloc (.cells #[.int .i64 0, .int .i64 0, .slice none 0 0] 265)).alloc (.cells #[.int .i64 0, .int .i64 0, .slice none 0 0] 265) = W1 := ⟨_, rfl⟩
  have H0 : RecW w W1 w.heap.size 0 none 0 := by
    have hb0 := below_new w (.cells #[.int .i64 0, .int .i64 0, .slice none 0 0] 265)
    rw [← hW1]
    refine ⟨?_, ⟨_, World.ownsRow_nil _ _ _ _⟩, (Bk.made _ _ _).ext (below_new _ _), hb0.trans (below_le hb0.size (below_new _ _))⟩
    have h := Bk.made (w.alloc (.cells #[.int .i64 0, .int .i64 0, .slice none 0 0] 265)) 265 #[.int .i64 0, .int .i64 0, .slice none 0 0]
    simpa using h
  have HH0 := Lib.hid H0
  have HH := Lib.hid h
  have hz := zero_frm
  obtain ⟨ii, hi0, hz0, hs0, hy0⟩ := info_parts info_blk
  have HI := Lib.hid hi0
  have HZ := Lib.hid hz0
  have HSz := Lib.hid hs0
  have HY := Lib.hid hy0
  have hst0 : (stRec (.pointer (some ⟨w.heap.size + 1, 0, none⟩)) (.agg #[.int .i64 0, .int .i64 0, .slice none 0 0])).run Tryz.prog ((w.alloc (.cells #[.int .i64 0, .int .i64 0, .slice none 0 0] 265)).alloc (.cells #[.int .i64 0, .int .i64 0, .slice none 0 0] 265)) = .ok () ((w.alloc (.cells #[.int .i64 0, .int .i64 0, .slice none 0 0] 265)).alloc (.cells #[.int .i64 0, .int .i64 0, .slice none 0 0] 265)) := by
    have h := stRec_new (w.alloc (.cells #[.int .i64 0, .int .i64 0, .slice none 0 0] 265)) #[.int .i64 0, .int .i64 0, .slice none 0 0] rfl 0 0 none 0 0
    rw [show (w.alloc (.cells #[.int .i64 0, .int .i64 0, .slice none 0 0] 265)).heap.size = w.heap.size + 1 by simp] at h
    exact h
  have HW1 := Lib.hid hW1
  clear hi0 hz0 hs0 hy0 H0 h hW1
  go_enter Tryz.func215, Tryz.ntmps215
  go_wp2_with fail
  rw [HW1.out]
  clear HW1 hst0
  obtain ⟨z, hzz⟩ : ∃ z, z = w.heap.size := ⟨_, rfl⟩
  have HZZ := Lib.hid hzz
  rw [← hzz] at HH0 ⊢
  clear hzz
  go_loopw [16] (fun i wr => ∃ (i0 : Nat) (A1 : Option Addr) (c1 : Nat), i0 ≤ m ∧ i = .int .i64 i0 ∧ Hid (RecW w wr z i0 A1 c1)) (fun i _ => m - (intOf i).toNat)
  case atStart => exact ⟨0, none, 0, Nat.zero_le _, rfl, HH0⟩
  case round =>
    obtain ⟨i0, A1, c1, hi0m, rfl, hR⟩ := hrel
    clear HH0
    by_cases hlt : i0 < m
    · have hi : (i0 : Int) < m := by omega
      obtain ⟨g, Ai, ci, rfl, hg, hcell0, hfr⟩ := HH.out i0 hlt
      have hcell : wr.cell? ⟨g, i0, none⟩ = some (.slice Ai n ci) := (cell_ext (by rw [← HZZ.out]; exact hR.out.low) hg).trans hcell0
      have HFr := Lib.hid hfr
      clear hcell0 hfr
      go_wp2_with fail
      clear hcell
      obtain ⟨wo, rfl⟩ : ∃ wo, wo = wr := ⟨_, rfl⟩
      go_loopw [9, 23] (fun fd j wi => ∃ (j0 : Nat) (A2 : Option Addr) (c2 : Nat), j0 ≤ n ∧ j = .int .i64 j0 ∧ fd = .bool (decide (0 < j0)) ∧ Hid (RecW w wi z (if j0 = 0 then i0 else i0 + 1) A2 c2) ) (fun _ j _ => n - (intOf j).toNat)
      case atStart => exact ⟨0, A1, c1, Nat.zero_le _, rfl, rfl, hR⟩
      case round =>
        obtain ⟨j0, A2, c2, hj0, rfl, rfl, hX⟩ := hrel
        clear hR
        by_cases hlt2 : j0 < n
        · have hi2 : (j0 : Int) < n := by omega
          obtain ⟨gi, rfl, hgi, hfc⟩ := (HFr.out.ext (show Below w.heap.size w wr by rw [← HZZ.out]; exact hX.out.low)) j0 hlt2
          have hld := ldF_mid (blkF_len i0) hfc
          have hst := stFr_new wr zeroF (blkF i0) blank_len (blkF_len i0)
          have hb1 := below_new wr (.cells (blkF i0).cells 273)
          have hkf := Bk.made wr 273 (blkF i0).cells
          have HX1 := Lib.hid (hX.out.ext hb1)
          obtain ⟨w1, hw1⟩ : ∃ w1, wr.alloc (.cells (blkF i0).cells 273) = w1 := ⟨_, rfl⟩
          rw [hw1] at hst hkf HX1
          have f2 : w1.cell? ⟨wr.heap.size, 2, none⟩ = some (.int .i64 0) := hkf.cell 2
          have f3 : w1.cell? ⟨wr.heap.size, 3, none⟩ = some (.int .i64 0) := hkf.cell 3
          have x1 : w1.cell? ⟨z + 1, 1, none⟩ = some (.int .i64 0) := HX1.out.x.cell 1
          clear hb1 hw1 hX hfc
          by_cases hj : j0 = 0
          · subst hj
            rw [if_pos rfl] at HX1
            by_cases hi0 : 0 < i0
            · have hi3 : (0 : Int) < i0 := by omega
              go_wp2_with fail
              have hss : w1.setCell ⟨z + 1, 1, none⟩ (.int .i64 0) = w1 := cell_same HX1.out.x x1
              have ht1 : w1.frozen? ⟨z + 1, 1, none⟩ = false := HX1.out.x.thaw 1
              go_region
              have hbd : Below w1.heap.size w1 w1.drew := below_drew1 (Below.refl _ _)
              have HX2 := Lib.hid (HX1.out.ext hbd)
              have hkf2 := hkf.ext hbd
              clear hss ht1 hbd HX1 hkf x1 f2 f3 hst hld
              generalize w1.drew = w2 at HX2 hkf2 ⊢
              have x2 : w2.cell? ⟨z + 1, 2, none⟩ = some (.slice A2 i0 c2) := HX2.out.x.cell 2
              have hldk := ldA_frm hkf2 (blkF_len i0)
              have hbs := bsK_run (D := (blkF i0).data) (blkF_len i0) w2
              have hb3 := below_new w2 (.cells (bvs (blkF i0).data).toArray 315)
              have HX3 := Lib.hid (HX2.out.ext hb3)
              have HCn := Lib.hid (cells_newK w2 (blkF i0).data)
              have HL : Hid ((bvs (blkF i0).data).length = 1 * 108) := by
                show _ = _
                rw [bvs_len, blkF_len i0]
              obtain ⟨w3, hw3⟩ : ∃ w3, w2.alloc (.cells (bvs (blkF i0).data).toArray 315) = w3 := ⟨_, rfl⟩
              rw [hw3] at hbs HX3 HCn
              obtain ⟨D, hD⟩ : ∃ D, (blkF i0).data = D := ⟨_, rfl⟩
              rw [hD] at hldk hbs HCn HL
              obtain ⟨xs, hxs⟩ := HX3.out.row
              have HXs := Lib.hid hxs
              have HZb : Hid (z + 2 ≤ w3.heap.size) := HX3.out.x.lt
              clear hb3 hkf2 hw3 hD hxs HX2
              go_wp2_with (first | (at_builtin; go_loud (refine wpList_append_gen rfl (.tmp 49) (.tmp 52) 189 rfl 315 ii _ 108 108 Tryz.underlying189 HI.out HZ.out HSz.out HY.out zk_size (by omega) (z + 2) w3 _ i0 _ rfl HXs.out ⟨w2.heap.size, 0, none⟩ 1 1 (bvs D) rfl HL.out HCn.out (bvs_one D) (by unfold maxLen; omega) (by omega) (Below.refl _ _) HZb.out ?_); intro A5 c5 w5 ho5 hg5 hob5 hb5 hs5; have hne5 := own_ne (z := z) HXs.out; have HX5 := HX3.out.x.grown hg5.out (hne5 (z + 1) (by omega)); have tx5 := HX5.thaw 2; have cx5 : w5.cell? ⟨z + 1, 2, none⟩ = some (.slice A2 i0 c2) := HX5.cell 2) | fail)
              exact ⟨⟨1, A5, c5, by omega, rfl, rfl, RecW.put HX3.out HX5 hne5 ho5.out hg5.out HZb.out⟩, by simp [intOf]; omega⟩
            · have hi3 : ¬ (0 : Int) < i0 := by omega
              go_wp2_with fail
              have hss : w1.setCell ⟨z + 1, 1, none⟩ (.int .i64 0) = w1 := cell_same HX1.out.x x1
              have ht1 : w1.frozen? ⟨z + 1, 1, none⟩ = false := HX1.out.x.thaw 1
              go_region
              have hbd : Below w1.heap.size w1 w1.drew := below_drew1 (Below.refl _ _)
              have HX2 := Lib.hid (HX1.out.ext hbd)
              have hkf2 := hkf.ext hbd
              clear hss ht1 hbd HX1 hkf x1 f2 f3 hst hld
              generalize w1.drew = w2 at HX2 hkf2 ⊢
              have x2 : w2.cell? ⟨z + 1, 2, none⟩ = some (.slice A2 i0 c2) := HX2.out.x.cell 2
              have hldk := ldA_frm hkf2 (blkF_len i0)
              have hbs := bsK_run (D := (blkF i0).data) (blkF_len i0) w2
              have hb3 := below_new w2 (.cells (bvs (blkF i0).data).toArray 315)
              have HX3 := Lib.hid (HX2.out.ext hb3)
              have HCn := Lib.hid (cells_newK w2 (blkF i0).data)
              have HL : Hid ((bvs (blkF i0).data).length = 1 * 108) := by
                show _ = _
                rw [bvs_len, blkF_len i0]
              obtain ⟨w3, hw3⟩ : ∃ w3, w2.alloc (.cells (bvs (blkF i0).data).toArray 315) = w3 := ⟨_, rfl⟩
              rw [hw3] at hbs HX3 HCn
              obtain ⟨D, hD⟩ : ∃ D, (blkF i0).data = D := ⟨_, rfl⟩
              rw [hD] at hldk hbs HCn HL
              obtain ⟨xs, hxs⟩ := HX3.out.row
              have HXs := Lib.hid hxs
              have HZb : Hid (z + 2 ≤ w3.heap.size) := HX3.out.x.lt
              clear hb3 hkf2 hw3 hD hxs HX2
              go_wp2_with (first | (at_builtin; go_loud (refine wpList_append_gen rfl (.tmp 49) (.tmp 52) 189 rfl 315 ii _ 108 108 Tryz.underlying189 HI.out HZ.out HSz.out HY.out zk_size (by omega) (z + 2) w3 _ i0 _ rfl HXs.out ⟨w2.heap.size, 0, none⟩ 1 1 (bvs D) rfl HL.out HCn.out (bvs_one D) (by unfold maxLen; omega) (by omega) (Below.refl _ _) HZb.out ?_); intro A5 c5 w5 ho5 hg5 hob5 hb5 hs5; have hne5 := own_ne (z := z) HXs.out; have HX5 := HX3.out.x.grown hg5.out (hne5 (z + 1) (by omega)); have tx5 := HX5.thaw 2; have cx5 : w5.cell? ⟨z + 1, 2, none⟩ = some (.slice A2 i0 c2) := HX5.cell 2) | fail)
              exact ⟨⟨1, A5, c5, by omega, rfl, rfl, RecW.put HX3.out HX5 hne5 ho5.out hg5.out HZb.out⟩, by simp [intOf]; omega⟩
          · have hd : decide (0 < j0) = true := decide_eq_true (by omega)
            rw [if_neg hj] at HX1
            go_wp2_with fail
            exact ⟨⟨j0 + 1, A2, c2, by omega, by go_num, by simp, by rw [if_neg (by omega)]; exact HX1⟩, by simp [intOf]; omega⟩
        · have hjn : j0 = n := by omega
          have hi2 : ¬ (j0 : Int) < n := by omega
          have hd : decide (0 < n) = true := decide_eq_true (by omega)
          rw [if_neg (by omega)] at hX
          go_wp2_with fail
          exact ⟨⟨i0 + 1, A2, c2, by omega, by go_num, hX⟩, by simp [intOf]; omega⟩
    · have hjn : i0 = m := by omega
      subst hjn
      have hi : ¬ (i0 : Int) < i0 := by omega
      have hld := ldRec_bk hR.out.x
      have hst := stRec_bk wr z #[.int .i64 0, .int .i64 0, .slice none 0 0] rfl 0 0 A1 i0 c1 hR.out.res
      go_wp2_with fail
      exact bodyPost_ret (res_rec rfl _ _ z 0 0 A1 i0 c1 rfl (Bk.rowF hR.out.res _)) rfl ⟨⟨A1, c1, rfl⟩, by
        have hB := hR.out.low.grown (row := some z) (grown_rowF wr z #[.int .i64 0, .int .i64 0, .slice A1 i0 c1]) (Nat.le_of_lt hR.out.res.lt) (fun k hk => by injection hk with hk; omega)
        rw [← HZZ.out]
        exact hB⟩
end Go.Proofs.YtkdlofgfkfhofaaGreatDoor
