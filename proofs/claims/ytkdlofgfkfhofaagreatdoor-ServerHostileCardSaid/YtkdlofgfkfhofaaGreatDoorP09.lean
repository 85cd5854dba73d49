import Derived.Test.YtkdlofgfkfhofaaGreatDoorP08
import Derived.Deep.MidRow
import Derived.Deep.WholeRow
import Derived.Deep.RegionHeld3
/-
  super: Find on a good rack.
-/
namespace Go.Proofs.YtkdlofgfkfhofaaGreatDoor
open Go.RowKit Go.Maps

theorem fields_cfg : Tryz.prog.underlying 25 = some (.struct (Tryz.prog.fieldsOf 25)) := by
  unfold Program.fieldsOf
  rw [Tryz.underlying25]
theorem eq_cfg (c : CfgM) (w : World) : (Op.equalIn 10000 25 (.agg #[.int .i64 c.id, .int .i64 c.k, .int .i64 c.n, .int .i64 c.stripes, .int .i64 c.slots]) (.agg #[.int .i64 c.id, .int .i64 c.k, .int .i64 c.n, .int .i64 c.stripes, .int .i64 c.slots])).run Tryz.prog w = .ok true w := by
  rw [run_equalIn_struct w 9999 25 _ _ fields_cfg Tryz.stoodInHeld25]
  unfold Program.fieldsOf
  rw [Tryz.underlying25]
  have e : ∀ z : Int, (z == z) = true := fun z => by simp
  have h5 := eqFields_consF (fs := []) (f := ⟨"Slots", 3, 4, false, "", "", 32⟩) (by decide) (part_intF #[.int .i64 c.id, .int .i64 c.k, .int .i64 c.n, .int .i64 c.stripes, .int .i64 c.slots] 4 c.slots w rfl) (part_intF #[.int .i64 c.id, .int .i64 c.k, .int .i64 c.n, .int .i64 c.stripes, .int .i64 c.slots] 4 c.slots w rfl) (eq_num 9997 _ _ w) eqFields_nilF
  have h4 := eqFields_consF (f := ⟨"Stripes", 3, 3, false, "", "", 24⟩) (by decide) (part_intF #[.int .i64 c.id, .int .i64 c.k, .int .i64 c.n, .int .i64 c.stripes, .int .i64 c.slots] 3 c.stripes w rfl) (part_intF #[.int .i64 c.id, .int .i64 c.k, .int .i64 c.n, .int .i64 c.stripes, .int .i64 c.slots] 3 c.stripes w rfl) (eq_num 9997 _ _ w) h5
  have h3 := eqFields_consF (f := ⟨"N", 3, 2, false, "", "", 16⟩) (by decide) (part_intF #[.int .i64 c.id, .int .i64 c.k, .int .i64 c.n, .int .i64 c.stripes, .int .i64 c.slots] 2 c.n w rfl) (part_intF #[.int .i64 c.id, .int .i64 c.k, .int .i64 c.n, .int .i64 c.stripes, .int .i64 c.slots] 2 c.n w rfl) (eq_num 9997 _ _ w) h4
  have h2 := eqFields_consF (f := ⟨"K", 3, 1, false, "", "", 8⟩) (by decide) (part_intF #[.int .i64 c.id, .int .i64 c.k, .int .i64 c.n, .int .i64 c.stripes, .int .i64 c.slots] 1 c.k w rfl) (part_intF #[.int .i64 c.id, .int .i64 c.k, .int .i64 c.n, .int .i64 c.stripes, .int .i64 c.slots] 1 c.k w rfl) (eq_num 9997 _ _ w) h3
  have h1 := eqFields_consF (f := ⟨"Id", 3, 0, false, "", "", 0⟩) (by decide) (part_intF #[.int .i64 c.id, .int .i64 c.k, .int .i64 c.n, .int .i64 c.stripes, .int .i64 c.slots] 0 c.id w rfl) (part_intF #[.int .i64 c.id, .int .i64 c.k, .int .i64 c.n, .int .i64 c.stripes, .int .i64 c.slots] 0 c.id w rfl) (eq_num 9997 _ _ w) h2
  refine Eq.trans h1 ?_
  simp only [e, Bool.and_self]
attribute [local go_sem ↓] ldCf_eq stCf_eq
set_option maxRecDepth 100000 in
set_option maxHeartbeats 4000000 in
theorem superFind_any {o : Nat → Option Nat} {r n S : Nat} {W : Nat → Nat → List UInt8} {w : World} (hR : StoAt w o r n S W) {c : CfgM} (hc : c.At n S) (hW : ∀ i, i < n → W i 0 = putF (c.block i)) :
    Calls Tryz.prog 179 #[.pointer (some ⟨r, 0, none⟩)] w fun e w' => e = .returned (.tuple #[.agg #[.int .i64 c.id, .int .i64 c.k, .int .i64 c.n, .int .i64 c.stripes, .int .i64 c.slots], .nilIface]) ∧ Below w.heap.size w w' := by
  have HG : Hid (∀ v, Below w.heap.size w v → ∀ i : Nat, i < n → Calls Tryz.prog 170 #[.pointer (some ⟨r, 0, none⟩), .int .i64 i] v fun e w' => e = .returned (.tuple #[.agg #[.int .i64 c.id, .int .i64 c.k, .int .i64 c.n, .int .i64 c.stripes, .int .i64 c.slots], .bool true]) ∧ Below v.heap.size v w') := fun v hv i hi => stoSuperGet (hR.ext hv) hc.right hi (hW i hi)
  have HF : Hid (∀ v, Below w.heap.size w v → Calls Tryz.prog 51 #[.pointer (some ⟨r, 0, none⟩), .agg #[.int .i64 c.id, .int .i64 c.k, .int .i64 c.n, .int .i64 c.stripes, .int .i64 c.slots]] v fun e w' => e = .returned (.bool true) ∧ Below v.heap.size v w') := fun v hv => stoFits (hR.ext hv) hc
  have HN : Hid (∀ v, Below w.heap.size w v → Calls Tryz.prog 92 #[.pointer (some ⟨r, 0, none⟩)] v fun e w' => e = .returned (.int .i64 n) ∧ w' = v) := fun v hv => stoN (hR.ext hv)
  have hn := hR.lt
  have hkn : c.k ≤ n := by have := (CfgM.right_in hc.right).k2; have := hc.nE; omega
  clear hR hW hc
  go_enter Tryz.func179, Tryz.ntmps179
  have hb0 := below_new w (.cells #[.int .i64 0, .int .i64 0, .int .i64 0, .int .i64 0, .int .i64 0] 25)
  have hk0 : Bk (w.alloc (.cells #[.int .i64 0, .int .i64 0, .int .i64 0, .int .i64 0, .int .i64 0] 25)) w.heap.size 25 noCfg.cells := Bk.made _ _ _
  go_wp2_with fail
  obtain ⟨W0, hW0⟩ : ∃ W0, (w.alloc (.cells #[.int .i64 0, .int .i64 0, .int .i64 0, .int .i64 0, .int .i64 0] 25)) = W0 := ⟨_, rfl⟩
  have hs0 : W0.heap.size = w.heap.size + 1 := by rw [← hW0]; simp
  rw [hW0] at hb0 hk0 ⊢
  have hb1 := hb0.trans (below_le hb0.size (below_new W0 (.cells #[.int .i64 0, .int .i64 0, .int .i64 0, .int .i64 0, .int .i64 0] 25)))
  have hk1 : Bk (W0.alloc (.cells #[.int .i64 0, .int .i64 0, .int .i64 0, .int .i64 0, .int .i64 0] 25)) W0.heap.size 25 #[.int .i64 0, .int .i64 0, .int .i64 0, .int .i64 0, .int .i64 0] := Bk.made _ _ _
  have hk0 := hk0.ext (below_new W0 (.cells #[.int .i64 0, .int .i64 0, .int .i64 0, .int .i64 0, .int .i64 0] 25))
  rw [hs0] at hk1
  generalize W0.alloc (.cells #[.int .i64 0, .int .i64 0, .int .i64 0, .int .i64 0, .int .i64 0] 25) = W1 at hb1 hk0 hk1 ⊢
  have HB1 := Lib.hid hb1
  have HK0 := Lib.hid hk0
  have HK1 := Lib.hid hk1
  clear hb0 hW0 hs0 hb1 hk0 hk1
  with_reducible refine (HN.out _ HB1.out).mono ?_
  rintro er w1 ⟨rfl, rfl⟩
  go_wp2_with fail
  have HFit := Lib.hid (HF.out)
  have heq := eq_cfg c
  obtain ⟨z, hz⟩ : ∃ z, z = w.heap.size := ⟨_, rfl⟩
  have HZ := Lib.hid hz
  have hB0 : Hid (Below z w w1) := by rw [HZ.out]; exact HB1
  rw [← hz] at HK0 HK1 HB1 HG HF ⊢
  clear hz
  go_loopw [5, 11] (fun m i wr => ∃ j : Nat, j ≤ n ∧ i = .int .i64 j ∧ m = .int .i64 j ∧ Hid (Bk wr z 25 noCfg.cells) ∧ Hid (Bk wr (z + 1) 25 (if j = 0 then noCfg else c).cells) ∧ Hid (Below z w wr)) (fun _ i _ => n - (intOf i).toNat)
  case atStart => exact ⟨0, Nat.zero_le _, rfl, rfl, HK0, HK1, hB0⟩
  case round =>
    obtain ⟨j, hj, rfl, rfl, hk0, hk1, hB⟩ := hrel
    clear HK0 HK1 HB1 hB0
    by_cases hlt : j < n
    · have hi : (j : Int) < n := by omega
      have HLt : Hid (z + 1 < wr.heap.size) := hk1.out.lt
      go_wp2_with fail
      with_reducible refine (HG.out _ hB.out j hlt).mono ?_
      rintro er w4 ⟨rfl, hb4⟩
      have hk0 := hk0.out.ext hb4
      have hk1 := hk1.out.ext hb4
      have hzw : z ≤ wr.heap.size := by have := HLt.out; omega
      have hB := hB.out.trans (below_le hzw hb4)
      have hsz := hb4.size
      have hst4 := stCf_new w4 w4.heap.size rfl #[.int .i64 0, .int .i64 0, .int .i64 0, .int .i64 0, .int .i64 0] rfl c.id c.k c.n c.stripes c.slots
      have hb5 := below_new w4 (.cells #[.int .i64 c.id, .int .i64 c.k, .int .i64 c.n, .int .i64 c.stripes, .int .i64 c.slots] 25)
      have hk5 := Bk.made w4 25 #[.int .i64 c.id, .int .i64 c.k, .int .i64 c.n, .int .i64 c.stripes, .int .i64 c.slots]
      obtain ⟨w5, hw5⟩ : ∃ w5, w4.alloc (.cells #[.int .i64 c.id, .int .i64 c.k, .int .i64 c.n, .int .i64 c.stripes, .int .i64 c.slots] 25) = w5 := ⟨_, rfl⟩
      rw [hw5] at hst4 hb5 hk5
      have hk0 := hk0.ext hb5
      have hk1 := hk1.ext hb5
      have hB := hB.trans (below_le (Nat.le_trans hzw hsz) hb5)
      have hld5 := ldCf_bk (g := w4.heap.size) (a := c.id) (b := c.k) (c := c.n) (d := c.stripes) (e := c.slots) hk5
      have HK0 := Lib.hid hk0
      have HB5 := Lib.hid hB
      by_cases hj0 : j = 0
      · subst hj0
        have hst5 := stCf_bk w5 (z + 1) noCfg.cells rfl c.id c.k c.n c.stripes c.slots hk1
        have hk6 := Bk.rowF hk1 #[.int .i64 c.id, .int .i64 c.k, .int .i64 c.n, .int .i64 c.stripes, .int .i64 c.slots]
        have hg6 := grown_rowF w5 (z + 1) #[.int .i64 c.id, .int .i64 c.k, .int .i64 c.n, .int .i64 c.stripes, .int .i64 c.slots]
        obtain ⟨w6, hw6⟩ : ∃ w6, w5.setRow (z + 1) #[.int .i64 c.id, .int .i64 c.k, .int .i64 c.n, .int .i64 c.stripes, .int .i64 c.slots] = w6 := ⟨_, rfl⟩
        rw [hw6] at hst5 hk6 hg6
        have hT6 : Turned (fun b => b = z + 1) w5 w6 := Turned.of_grown hg6 (fun k e => (Option.some.inj e).symm)
        have hk60 := hk0.turned hT6 (by omega)
        have hk6x := hk5.turned hT6 (by have := HLt.out; omega)
        have hB6 := hT6.below hB (by have := hb5.size; omega) (fun i e => by omega)
        have hld6 := ldCf_bk hk6
        have hld6x := ldCf_bk (g := w4.heap.size) (a := c.id) (b := c.k) (c := c.n) (d := c.stripes) (e := c.slots) hk6x
        have HK60 := Lib.hid hk60
        have HK6 := Lib.hid hk6
        have HB6 := Lib.hid hB6
        clear hk0 hk1 hB hk5 hb5 hw5 hw6 hk6 hg6 hT6 hk60 hk6x hB6 hsz hb4 hzw
        go_wp2_with fail
        exact ⟨⟨1, by omega, rfl, rfl, HK60, by rw [if_neg (by decide)]; exact HK6, HB6⟩, by simp [intOf]; omega⟩
      · rw [if_neg hj0] at hk1
        have hq0 : ((j : Int) == 0) = false := by simp; omega
        have hld6 := ldCf_bk (g := z + 1) (a := c.id) (b := c.k) (c := c.n) (d := c.stripes) (e := c.slots) hk1
        have HK1 := Lib.hid hk1
        clear hk0 hk1 hB hk5 hb5 hw5 hsz hb4 hzw
        go_wp2_with fail
        exact ⟨⟨j + 1, by omega, by go_num, by go_num, HK0, by rw [if_neg (by omega)]; exact HK1, HB5⟩, by simp [intOf]; omega⟩
    · have hjn : j = n := by omega
      subst hjn
      have hi : ¬ (j : Int) < j := by omega
      have hj0 : ¬ j = 0 := by omega
      rw [if_neg hj0] at hk1
      have hq0 : ((j : Int) == 0) = false := by simp; omega
      have hq1 : ¬ (j : Int) < c.k := by omega
      have hzw : z ≤ wr.heap.size := by have := hk1.out.lt; omega
      have c1 : wr.cell? ⟨z + 1, 1, none⟩ = some (.int .i64 c.k) := hk1.out.cell 1
      have hld := ldCf_bk (g := z + 1) (a := c.id) (b := c.k) (c := c.n) (d := c.stripes) (e := c.slots) hk1.out
      go_wp2_with (first | (go_at_call 51; go_loud ((with_reducible refine (HF.out _ hB.out).mono ?_); rintro er w4 ⟨rfl, hb4⟩; have HB4 := Lib.hid (hB.out.trans (below_le hzw hb4)); have HK4 := Lib.hid (hk0.out.ext hb4); have hld4 := ldCf_bk (g := z + 1) (a := c.id) (b := c.k) (c := c.n) (d := c.stripes) (e := c.slots) (hk1.out.ext hb4); have hst4 := stCf_bk w4 z noCfg.cells rfl c.id c.k c.n c.stripes c.slots HK4.out; clear hb4)) | fail)
      refine bodyPost_ret (res_cfg rfl _ _ z c.id c.k c.n c.stripes c.slots rfl (Bk.rowF HK4.out _)) rfl ⟨rfl, ?_⟩
      have hB5 := HB4.out.grown (row := some z) (grown_rowF w4 z #[.int .i64 c.id, .int .i64 c.k, .int .i64 c.n, .int .i64 c.stripes, .int .i64 c.slots]) (by have := HB4.out.size; have := hk0.out.lt; have := HZ.out; omega) (fun k hk => by injection hk with hk; omega)
      rw [← HZ.out]
      exact hB5
end Go.Proofs.YtkdlofgfkfhofaaGreatDoor

/-
  journal: Sector, Frame (of a blank record), known.
-/
namespace Go.Proofs.YtkdlofgfkfhofaaGreatDoor
open Go.RowKit Go.Maps

theorem jprod_in {c : CfgM} (h : c.In) {s : Nat} (hs : (s : Int) < c.slots) : 0 ≤ (s : Int) * c.k ∧ (s : Int) * c.k + c.k ≤ c.slots * c.k ∧ (s : Int) * c.k ≤ 32 := by
  have h1 := h.l2
  have h3 := h.k1
  have h4 := prod_in h
  have h5 : ((s : Int) + 1) * c.k ≤ c.slots * c.k := Int.mul_le_mul_of_nonneg_right (by omega) (by omega)
  rw [Int.add_mul, Int.one_mul] at h5
  exact ⟨Int.mul_nonneg (by omega) (by omega), h5, by omega⟩
set_option maxRecDepth 100000 in
set_option maxHeartbeats 1000000 in
theorem jSector_any {c : CfgM} (h : c.In) {s i : Nat} (hs : (s : Int) < c.slots) (hi : i < 8) (w : World) : Calls Tryz.prog 174 #[.agg #[.int .i64 c.id, .int .i64 c.k, .int .i64 c.n, .int .i64 c.stripes, .int .i64 c.slots], .int .i64 s, .int .i64 i] w fun e w' => e = .returned (.int .i64 (sectorJ c s i)) ∧ Below w.heap.size w w' := by
  have hk := Bk.made w 25 #[.int .i64 c.id, .int .i64 c.k, .int .i64 c.n, .int .i64 c.stripes, .int .i64 c.slots]
  have hb := below_new w (.cells #[.int .i64 c.id, .int .i64 c.k, .int .i64 c.n, .int .i64 c.stripes, .int .i64 c.slots] 25)
  obtain ⟨p1, p2, p3⟩ := jprod_in h hs
  obtain ⟨q, hq⟩ : ∃ q, q = sectorJ c s i := ⟨_, rfl⟩
  have hq2 : (1 : Int) + (s : Int) * c.k + i = q := by rw [hq]; rfl
  rw [← hq]
  clear hq h
  go_enter Tryz.func174, Tryz.ntmps174
  go_wp2_with fail
  go_ret
  exact ⟨rfl, hb⟩
attribute [local go_sem ↓] ldFr_eq stFr_eq bdF_eq
set_option maxRecDepth 100000 in
set_option maxHeartbeats 2000000 in
theorem jFrame_nil (i : Nat) (w : World) : Calls Tryz.prog 175 #[.agg #[.int .i64 0, .int .i64 0, .slice none 0 0], .int .i64 i] w fun e w' => e = .returned (.agg (Frm.cells ⟨2, i, 0, 0, blank⟩)) ∧ Below w.heap.size w w' := by
  have hi : ¬ (i : Int) < 0 := by omega
  have hz := zero_frm
  have hbd := bdF_four 2 i 0 0
  obtain ⟨W1, hW1⟩ : ∃ W1, (w.alloc (.cells #[.int .i64 0, .int .i64 0, .slice none 0 0] 265)).alloc (.cells zeroF.cells 273) = W1 := ⟨_, rfl⟩
  have hsz : W1.heap.size = w.heap.size + 1 + 1 := by rw [← hW1]; simp
  have hb1 : Below w.heap.size w W1 := by
    rw [← hW1]
    exact (below_new w _).trans (below_le (below_new w (.cells #[.int .i64 0, .int .i64 0, .slice none 0 0] 265)).size (below_new _ _))
  have hk1 : Bk W1 (w.heap.size + 1) 273 zeroF.cells := by
    have h := Bk.made (w.alloc (.cells #[.int .i64 0, .int .i64 0, .slice none 0 0] 265)) 273 zeroF.cells
    rw [hW1] at h
    simpa using h
  have hkr : Bk W1 w.heap.size 265 #[.int .i64 0, .int .i64 0, .slice none 0 0] := by
    rw [← hW1]
    exact (Bk.made w _ _).ext (below_new _ _)
  have r0 : W1.cell? ⟨w.heap.size, 0, none⟩ = some (.int .i64 0) := hkr.cell 0
  have r1 : W1.cell? ⟨w.heap.size, 1, none⟩ = some (.int .i64 0) := hkr.cell 1
  have hkr2 := hkr.ext (below_new W1 (.cells (Frm.cells ⟨2, i, 0, 0, blank⟩) 273))
  have r2 : (W1.alloc (.cells (Frm.cells ⟨2, i, 0, 0, blank⟩) 273)).cell? ⟨w.heap.size, 2, none⟩ = some (.slice none 0 0) := hkr2.cell 2
  have HKr2 := Lib.hid hkr2
  have hst := stFr_new W1 zeroF ⟨2, i, 0, 0, blank⟩ blank_len blank_len
  have hk2 := hk1.ext (below_new W1 (.cells (Frm.cells ⟨2, i, 0, 0, blank⟩) 273))
  have hkf := Bk.made W1 273 (Frm.cells ⟨2, i, 0, 0, blank⟩)
  have hld := ldFr_bk hkf blank_len
  have hst2 := stF_bk _ (w.heap.size + 1) zeroF ⟨2, i, 0, 0, blank⟩ hk2 blank_len blank_len
  have HB := Lib.hid (hb1.trans (below_le hb1.size (below_new W1 (.cells (Frm.cells ⟨2, i, 0, 0, blank⟩) 273))))
  have HK2 := Lib.hid hk2
  clear hb1 hk1 hk2 hkf hkr hkr2 hsz
  go_enter Tryz.func175, Tryz.ntmps175
  go_wp2_with fail
  exact bodyPost_ret (results_cell_row rfl _ _ (w.heap.size + 1) _ _ (0, 0) _ rfl (Bk.rowF HK2.out _) Tryz.underlying273 rfl (size_of blank_len)) rfl ⟨rfl, HB.out.grown (row := some (w.heap.size + 1)) (grown_rowF _ _ _) HB.out.size (fun k hk => by injection hk with hk; omega)⟩
set_option maxRecDepth 100000 in
set_option maxHeartbeats 1000000 in
theorem jKnown_any {w : World} {o : Nat → Option Nat} {r n S : Nat} {W : Nat → Nat → List UInt8} (h : StoAt w o r n S W) {c : CfgM} (hc : c.At n S) {s : Nat} (hs : (s : Int) < c.slots) :
    Calls Tryz.prog 144 #[.pointer (some ⟨r, 0, none⟩), .agg #[.int .i64 c.id, .int .i64 c.k, .int .i64 c.n, .int .i64 c.stripes, .int .i64 c.slots], .int .i64 s] w fun e w' => e = .returned (.bool true) ∧ Below w.heap.size w w' := by
  have hk := Bk.made w 25 #[.int .i64 c.id, .int .i64 c.k, .int .i64 c.n, .int .i64 c.stripes, .int .i64 c.slots]
  have hb := below_new w (.cells #[.int .i64 c.id, .int .i64 c.k, .int .i64 c.n, .int .i64 c.stripes, .int .i64 c.slots] 25)
  have HF := Lib.hid (stoFits (h.ext hb) hc)
  have h0 : (0 : Int) ≤ s := by omega
  clear h hc
  go_enter Tryz.func144, Tryz.ntmps144
  go_wp2_with fail
  generalize w.alloc (.cells #[.int .i64 c.id, .int .i64 c.k, .int .i64 c.n, .int .i64 c.stripes, .int .i64 c.slots] 25) = W1 at hk hb HF ⊢
  with_reducible refine HF.out.mono ?_
  rintro er w4 ⟨rfl, hb4⟩
  have hk4 := hk.ext hb4
  have c4 : w4.cell? ⟨w.heap.size, 4, none⟩ = some (.int .i64 c.slots) := hk4.cell 4
  have HB := Lib.hid (hb.trans (below_le hb.size hb4))
  clear hk hk4 hb hb4
  go_wp2_with fail
  go_ret
  exact ⟨rfl, HB.out⟩
end Go.Proofs.YtkdlofgfkfhofaaGreatDoor

/-
  journal: put of a blank record, on a good rack.
-/
namespace Go.Proofs.YtkdlofgfkfhofaaGreatDoor
open Go.RowKit Go.Maps

/-! ### what a walk keeps beside a rack -/
def Own1 (o : Nat → Option Nat) (w : World) (g : Nat) (t : TypeId) (cs : Array Value) : Prop := Bk w g t cs ∧ o g = none
theorem Own1.step {w w' : World} {o o' : Nat → Option Nat} {r n S g : Nat} {t : TypeId} {cs : Array Value} {W : Nat → Nat → List UInt8} (h : Own1 o w g t cs) (hs : StoP w o r n S W o' w') : Own1 o' w' g t cs := ⟨hs.bk h.1 h.2, hs.no h.1.lt h.2⟩
theorem Own1.ext {w w' : World} {o : Nat → Option Nat} {g : Nat} {t : TypeId} {cs : Array Value} (h : Own1 o w g t cs) (hb : Below w.heap.size w w') : Own1 o w' g t cs := ⟨h.1.ext hb, h.2⟩
def OwnIs (o : Nat → Option Nat) (w : World) (v : Value) (l : List Int) : Prop := (∃ B, OwnI w B v l) ∧ ∀ g, v.ownBlock = some g → o g = none
theorem OwnIs.step {w w' : World} {o o' : Nat → Option Nat} {r n S : Nat} {v : Value} {l : List Int} {W : Nat → Nat → List UInt8} (h : OwnIs o w v l) (hs : StoP w o r n S W o' w') : OwnIs o' w' v l := by
  obtain ⟨⟨B, h1⟩, h2⟩ := h
  exact ⟨⟨B, hs.ints h1 h2⟩, fun g e => hs.no (World.ownsRow.lt h1 g e).2 (h2 g e)⟩
theorem OwnIs.ext {w w' : World} {o : Nat → Option Nat} {v : Value} {l : List Int} (h : OwnIs o w v l) (hb : Below w.heap.size w w') : OwnIs o w' v l := by
  obtain ⟨⟨B, h1⟩, h2⟩ := h
  exact ⟨⟨B, h1.ext hb⟩, h2⟩
theorem OwnIs.get {w : World} {o : Nat → Option Nat} {A : Option Addr} {n m c : Nat} (h : OwnIs o w (.slice A m c) (upto n)) {j : Nat} (hj : j < n) : ∃ g, A = some ⟨g, 0, none⟩ ∧ w.cell? ⟨g, j, none⟩ = some (.int .i64 j) := by
  obtain ⟨⟨B, h1⟩, _⟩ := h
  obtain ⟨A', c', e, h3⟩ := h1.open_
  injection e with e1 e2 e3
  subst e1
  obtain ⟨g, e4, _, _, e5⟩ := h3 j (by rw [upto_len]; exact hj)
  have e6 : (upto n)[j]'(by rw [upto_len]; exact hj) = (j : Int) := by simp [upto]
  rw [e6] at e5
  exact ⟨g, e4, e5⟩
def ldRec (v : Value) : Sem Value := Instr.loadAt 265 v
theorem ldRec_eq (v : Value) : Instr.loadAt 265 v = ldRec v := rfl
theorem size_rec : (Tryz.prog.info? 265).map (·.size) = some 3 := by kernel_rfl
theorem ldRec_bk {w : World} {g : Nat} {a b : Int} {A : Option Addr} {m c : Nat} (h : Bk w g 265 #[.int .i64 a, .int .i64 b, .slice A m c]) : (ldRec (.pointer (some ⟨g, 0, none⟩))).run Tryz.prog w = .ok (.agg #[.int .i64 a, .int .i64 b, .slice A m c]) w := by
  unfold ldRec
  simp only [Instr.loadAt, Instr.sureAddr, Sem.run_bind, Sem.run_pure, Result.andThen_ok, run_loadVar_row w g _ _ _ (0, 0) _ h Tryz.underlying265 rfl size_rec]
/-- the frame of a blank slot's place -/
def blkF (i : Nat) : Frm := ⟨2, i, 0, 0, blank⟩
theorem blkF_len (i : Nat) : (blkF i).data.length = 108 := blank_len
theorem blkF_right {i : Nat} (h : i < 8) : (blkF i).right = true := by
  unfold blkF Frm.right inB
  simp
  omega
/-- places from one on are blank -/
def blkW (W : Nat → Nat → List UInt8) (s k d i : Nat) : Nat → Nat → List UInt8 := fun j t => if (j < d ∧ s ≤ t ∧ t < s + k) ∨ (j = d ∧ s ≤ t ∧ t < s + i) then putF (blkF (t - s)) else W j t
theorem blkW_step (W : Nat → Nat → List UInt8) (s k j m a b : Nat) : putS (blkW W s k j m) j (s + m) (putF (blkF m)) a b = blkW W s k j (m + 1) a b := by
  unfold putS blkW
  by_cases h : a = j ∧ b = s + m
  · obtain ⟨rfl, rfl⟩ := h
    rw [if_pos ⟨rfl, rfl⟩, if_pos (.inr ⟨rfl, by omega, by omega⟩), Nat.add_sub_cancel_left]
  · rw [if_neg h]
    by_cases h2 : (a < j ∧ s ≤ b ∧ b < s + k) ∨ (a = j ∧ s ≤ b ∧ b < s + m)
    · rw [if_pos h2, if_pos (by omega)]
    · rw [if_neg h2, if_neg (by omega)]
theorem blkW_next (W : Nat → Nat → List UInt8) (s k j a b : Nat) : blkW W s k j k a b = blkW W s k (j + 1) 0 a b := by
  unfold blkW
  by_cases h2 : (a < j ∧ s ≤ b ∧ b < s + k) ∨ (a = j ∧ s ≤ b ∧ b < s + k)
  · rw [if_pos h2, if_pos (by omega)]
  · rw [if_neg h2, if_neg (by omega)]
attribute [local go_sem ↓] ldCf_eq ldRec_eq
set_option maxRecDepth 100000 in
set_option maxHeartbeats 4000000 in
theorem jPut_blank {w : World} {o : Nat → Option Nat} {r n S : Nat} {W : Nat → Nat → List UInt8} (h : StoAt w o r n S W) {c : CfgM} (hc : c.At n S) {k s sec : Nat} (hk : c.k = (k : Int)) (hs : (s : Int) < c.slots) (hsc : sec = 1 + s * k) :
    Calls Tryz.prog 145 #[.pointer (some ⟨r, 0, none⟩), .agg #[.int .i64 c.id, .int .i64 c.k, .int .i64 c.n, .int .i64 c.stripes, .int .i64 c.slots], .int .i64 s, .agg #[.int .i64 0, .int .i64 0, .slice none 0 0]] w fun e w' => e = .returned .nilIface ∧ ∃ o', StoP w o r n S (blkW W sec k n 0) o' w' := by
  have HK := Lib.hid hk
  clear hk
  have hk0 := Bk.made w 25 #[.int .i64 c.id, .int .i64 c.k, .int .i64 c.n, .int .i64 c.stripes, .int .i64 c.slots]
  have hb0 := below_new w (.cells #[.int .i64 c.id, .int .i64 c.k, .int .i64 c.n, .int .i64 c.stripes, .int .i64 c.slots] 25)
  go_enter Tryz.func145, Tryz.ntmps145
  go_wp2_with fail
  obtain ⟨W1, hW1⟩ : ∃ W1, (w.alloc (.cells #[.int .i64 c.id, .int .i64 c.k, .int .i64 c.n, .int .i64 c.stripes, .int .i64 c.slots] 25)).alloc (.cells #[.int .i64 0, .int .i64 0, .slice none 0 0] 265) = W1 := ⟨_, rfl⟩
  have hb1 : Below w.heap.size w W1 := by rw [← hW1]; exact hb0.trans (below_le hb0.size (below_new _ _))
  have hkc : Bk W1 w.heap.size 25 #[.int .i64 c.id, .int .i64 c.k, .int .i64 c.n, .int .i64 c.stripes, .int .i64 c.slots] := by rw [← hW1]; exact hk0.ext (below_new _ _)
  have hkx : Bk W1 (w.heap.size + 1) 265 #[.int .i64 0, .int .i64 0, .slice none 0 0] := by
    have h := Bk.made (w.alloc (.cells #[.int .i64 c.id, .int .i64 c.k, .int .i64 c.n, .int .i64 c.stripes, .int .i64 c.slots] 25)) 265 #[.int .i64 0, .int .i64 0, .slice none 0 0]
    rw [hW1] at h
    simpa using h
  rw [hW1]
  have h1 := h.ext hb1
  have g1 := h.newO (g := w.heap.size) (Nat.le_refl _)
  have g2 := h.newO (g := w.heap.size + 1) (by omega)
  have hP0 : StoP w o r n S W o W1 := (StoP.refl h).ext hb1
  have hs0 := h.lt
  have hin := CfgM.right_in hc.right
  have hk1 := hin.k1
  have hk8 : c.k ≤ 8 := Int.le_trans hin.k2 hin.n2
  have hsec : ∀ i : Nat, sectorJ c s i = ((1 + s * k + i : Nat) : Int) := fun i => by unfold sectorJ; rw [HK.out]; push_cast; rfl
  have hS : 1 + s * k + k ≤ S := by
    have h1 := (jprod_in hin hs).2.1
    have h2 := hc.secE
    have h3 := hin.s1
    unfold CfgM.sectors at h2
    rw [HK.out] at h1 h2
    have h4 : ((s * k + k : Nat) : Int) ≤ c.slots * (k : Int) := by push_cast; exact h1
    omega
  have HSec : Hid (∀ i : Nat, i < 8 → ∀ v, Calls Tryz.prog 174 #[.agg #[.int .i64 c.id, .int .i64 c.k, .int .i64 c.n, .int .i64 c.stripes, .int .i64 c.slots], .int .i64 s, .int .i64 i] v fun e w' => e = .returned (.int .i64 ((1 + s * k + i : Nat) : Int)) ∧ Below v.heap.size v w') := fun i hi v => by
    have h := jSector_any hin hs hi v
    rw [hsec i] at h
    exact h
  have HFr : Hid (∀ (i : Nat) (v : World), Calls Tryz.prog 175 #[.agg #[.int .i64 0, .int .i64 0, .slice none 0 0], .int .i64 i] v fun e w' => e = .returned (.agg (blkF i).cells) ∧ Below v.heap.size v w') := jFrame_nil
  have HPu := Lib.hid (fun i : Nat => fun hi : i < 8 => putF_any (blkF_len i) (blkF_right hi))
  rw [← hsc] at HSec hS
  have HS := Lib.hid hS
  clear hk0 hb0 hW1 hsec hc hin hsc hS hs
  with_reducible refine (stoOnline h1).mono ?_
  rintro er w1 ⟨v, rfl, hv, hb2⟩
  have hv0 : OwnIs o w1 v (upto n) := ⟨⟨_, hv⟩, fun g e => h.newO (Nat.le_trans hb1.size (World.ownsRow.lt hv g e).1)⟩
  obtain ⟨A, cp, hA, hcl⟩ := hv.open_
  rw [upto_len] at hA
  subst hA
  clear hcl
  have HV0 := Lib.hid hv0
  have HC0 := Lib.hid ((show Own1 o W1 _ _ _ from ⟨hkc, g1⟩).ext hb2)
  have HX0 := Lib.hid ((show Own1 o W1 _ _ _ from ⟨hkx, g2⟩).ext hb2)
  have HP1 := Lib.hid (hP0.ext hb2)
  clear hv hv0 hkc hkx g1 g2 hP0 hb1 h1 hb2
  go_wp2_with fail
  go_loopw [19] (fun i wr => ∃ (j : Nat) (o1 : Nat → Option Nat), j ≤ n ∧ i = .int .i64 j ∧ Hid (StoP w o r n S (blkW W sec k j 0) o1 wr) ∧ Hid (Own1 o1 wr w.heap.size 25 #[.int .i64 c.id, .int .i64 c.k, .int .i64 c.n, .int .i64 c.stripes, .int .i64 c.slots]) ∧ Hid (Own1 o1 wr (w.heap.size + 1) 265 #[.int .i64 0, .int .i64 0, .slice none 0 0]) ∧ Hid (OwnIs o1 wr (.slice A n cp) (upto n))) (fun i _ => n - (intOf i).toNat)
  case atStart => exact ⟨0, o, Nat.zero_le _, rfl, HP1.out.same (fun j t _ => by unfold blkW; rw [if_neg (by omega)]), HC0, HX0, HV0⟩
  case round =>
    obtain ⟨j, o1, hj, rfl, hP, hC, hX, hV⟩ := hrel
    clear HC0 HX0 HV0 HP1
    by_cases hlt : j < n
    · have hi : (j : Int) < n := by omega
      obtain ⟨g, rfl, hg⟩ := hV.out.get hlt
      have ck : wr.cell? ⟨w.heap.size, 1, none⟩ = some (.int .i64 c.k) := hC.out.1.cell 1
      have HG := Lib.hid hg
      go_wp2_with fail
      clear hg ck
      obtain ⟨wo, rfl⟩ : ∃ wo, wo = wr := ⟨_, rfl⟩
      go_loopw [25] (fun i wi => ∃ (m : Nat) (o2 : Nat → Option Nat), m ≤ k ∧ i = .int .i64 m ∧ Hid (StoP w o r n S (blkW W sec k j m) o2 wi) ∧ Hid (Own1 o2 wi w.heap.size 25 #[.int .i64 c.id, .int .i64 c.k, .int .i64 c.n, .int .i64 c.stripes, .int .i64 c.slots]) ∧ Hid (Own1 o2 wi (w.heap.size + 1) 265 #[.int .i64 0, .int .i64 0, .slice none 0 0]) ∧ Hid (OwnIs o2 wi (.slice (some ⟨g, 0, none⟩) n cp) (upto n))) (fun i _ => k - (intOf i).toNat)
      case atStart => exact ⟨0, o1, Nat.zero_le _, rfl, hP, hC, hX, hV⟩
      case round =>
        obtain ⟨m, o2, hm, rfl, hP2, hC2, hX2, hV2⟩ := hrel
        clear hP hC hX hV
        by_cases hmk : m < k
        · have hi2 : (m : Int) < c.k := by rw [HK.out]; omega
          have hm8 : m < 8 := by have := HK.out; omega
          obtain ⟨t, ht⟩ : ∃ t, t = sec + m := ⟨_, rfl⟩
          have hSe : ∀ v, Calls Tryz.prog 174 #[.agg #[.int .i64 c.id, .int .i64 c.k, .int .i64 c.n, .int .i64 c.stripes, .int .i64 c.slots], .int .i64 s, .int .i64 m] v fun e w' => e = .returned (.int .i64 t) ∧ Below v.heap.size v w' := by
            rw [ht]
            exact HSec.out m hm8
          have HSe := Lib.hid hSe
          have HPm := Lib.hid (HPu.out m hm8)
          have FS : Hid (∀ v, Turned (fun b => o2 b ≠ none) wr v → (ldCf (.pointer (some ⟨w.heap.size, 0, none⟩))).run Tryz.prog v = .ok (.agg #[.int .i64 c.id, .int .i64 c.k, .int .i64 c.n, .int .i64 c.stripes, .int .i64 c.slots]) v ∧ (ldRec (.pointer (some ⟨w.heap.size + 1, 0, none⟩))).run Tryz.prog v = .ok (.agg #[.int .i64 0, .int .i64 0, .slice none 0 0]) v) := fun v hv => ⟨ldCf_bk (hC2.out.1.turned hv fun h => h hC2.out.2), ldRec_bk (hX2.out.1.turned hv fun h => h hX2.out.2)⟩
          have F0 : Hid (Turned (fun b => o2 b ≠ none) wr wr.drew) := Turned.of_below (below_drew1 (Below.refl _ _))
          have B0 : Hid (Below wr.heap.size wr wr.drew) := below_drew1 (Below.refl _ _)
          have HWr : Hid (∀ v g, Below wr.heap.size wr v → wr.heap.size ≤ g → RdB v (some ⟨g, 0, none⟩) 128 128 (putF (blkF m)) → Calls Tryz.prog 95 #[.pointer (some ⟨r, 0, none⟩), .int .i64 j, .int .i64 t, .slice (some ⟨g, 0, none⟩) 128 128] v fun e w' => e = .returned .nilIface ∧ ∃ o', StoP v o2 r n S (putS (blkW W sec k j m) j t (putF (blkF m))) o' w') := fun v g hv hg hr =>
            stoWrite (hP2.out.at_.ext hv) hlt (by have := HS.out; omega) (putF_len (blkF_len m) (blkF_right hm8)) hr (hP2.out.at_.newO hg)
          have HT := Lib.hid ht
          clear hSe ht
          go_wp2_with fail
          go_region_held3 (fun v => (ldCf (.pointer (some ⟨w.heap.size, 0, none⟩))).run Tryz.prog v = .ok (.agg #[.int .i64 c.id, .int .i64 c.k, .int .i64 c.n, .int .i64 c.stripes, .int .i64 c.slots]) v ∧ (ldRec (.pointer (some ⟨w.heap.size + 1, 0, none⟩))).run Tryz.prog v = .ok (.agg #[.int .i64 0, .int .i64 0, .slice none 0 0]) v) (first | exact FS.out _ F0.out | exact FS.out _ T4.out | exact FS.out _ T5.out | exact FS.out _ T6.out | exact FS.out _ T7.out | fail) (first | (go_at_call 174; go_loud ((with_reducible refine (HSe.out _).mono ?_); rintro er w4 ⟨rfl, hb4⟩; have T4 := Lib.hid (F0.out.then_below hb4); have B4 := Lib.hid (B0.out.trans (below_le B0.out.size hb4)); clear hb4)) | (go_at_call 175; go_loud ((with_reducible refine (HFr.out m _).mono ?_); rintro er w5 ⟨rfl, hb5⟩; have T5 := Lib.hid (T4.out.then_below hb5); have B5 := Lib.hid (B4.out.trans (below_le B4.out.size hb5)); clear hb5)) | (go_at_call 149; go_loud ((with_reducible refine (HPm.out _).mono ?_); rintro er w6 ⟨g6, rfl, hg6, hr6, hb6⟩; have T6 := Lib.hid (T5.out.then_below hb6); have B6 := Lib.hid (B5.out.trans (below_le B5.out.size hb6)); have R6 := Lib.hid hr6; have G6 : Hid (wr.heap.size ≤ g6) := Nat.le_trans B5.out.size hg6; clear hg6 hr6 hb6)) | (go_at_call 95; go_loud ((with_reducible refine (HWr.out _ _ B6.out G6.out R6.out).mono ?_); rintro er w7 ⟨rfl, o7, hp7⟩; have P7 := Lib.hid (StoP.from_ B6.out hp7); have T7 := Lib.hid (P7.out.turned); clear hp7)) | fail)
          go_wp2_with fail
          exact ⟨⟨m + 1, o7, by omega, by go_num, (hP2.out.then P7.out).same (fun a b _ => by rw [HT.out]; exact blkW_step W sec k j m a b), hC2.out.step P7.out, hX2.out.step P7.out, hV2.out.step P7.out⟩, by simp [intOf]; omega⟩
        · have hmk2 : m = k := by omega
          have hi2 : ¬ (m : Int) < c.k := by rw [HK.out]; omega
          go_wp2_with fail
          exact ⟨⟨j + 1, o2, by omega, by go_num, hP2.out.same (fun a b _ => by rw [hmk2]; exact blkW_next W sec k j a b), hC2, hX2, hV2⟩, by simp [intOf]; omega⟩
    · have hjn : j = n := by omega
      subst hjn
      have hi : ¬ (j : Int) < j := by omega
      go_wp2_with fail
      clear hC hX hV
      with_reducible refine (stoOnline hP.out.at_).mono ?_
      rintro er w2 ⟨v2, rfl, hv2, hb2⟩
      have hv2' : OwnIs o1 w2 v2 (upto j) := ⟨⟨_, hv2⟩, fun g e => hP.out.at_.newO (World.ownsRow.lt hv2 g e).1⟩
      obtain ⟨A2, cp2, hA, hcl⟩ := hv2.open_
      rw [upto_len] at hA
      subst hA
      have HV2 := Lib.hid hv2'
      have HP2 := Lib.hid (hP.out.ext hb2)
      clear hcl hv2 hv2' hb2 hP hi
      go_wp2_with fail
      go_loopw [47] (fun i wr => ∃ (m : Nat) (o2 : Nat → Option Nat), m ≤ j ∧ i = .int .i64 m ∧ Hid (StoP w o r j S (blkW W sec k j 0) o2 wr) ∧ Hid (OwnIs o2 wr (.slice A2 j cp2) (upto j))) (fun i _ => j - (intOf i).toNat)
      case atStart => exact ⟨0, o1, Nat.zero_le _, rfl, HP2, HV2⟩
      case round =>
        obtain ⟨m, o2, hm, rfl, hP, hV⟩ := hrel
        clear HP2 HV2
        by_cases hmj : m < j
        · have hi : (m : Int) < j := by omega
          obtain ⟨g, rfl, hg⟩ := hV.out.get hmj
          go_wp2_with fail
          with_reducible refine (stoFlush hP.out.at_ hmj).mono ?_
          rintro er w3 ⟨rfl, o3, hp3⟩
          have HV3 := Lib.hid (hV.out.step hp3)
          have HP3 := Lib.hid (hP.out.then hp3)
          clear hp3
          go_wp2_with fail
          exact ⟨⟨m + 1, o3, by omega, by go_num, HP3, HV3⟩, by simp [intOf]; omega⟩
        · have hmj2 : m = j := by omega
          subst hmj2
          have hi : ¬ (m : Int) < m := by omega
          go_wp2_with fail
          go_ret
          exact ⟨rfl, o2, hP.out⟩
end Go.Proofs.YtkdlofgfkfhofaaGreatDoor

/-
  journal: Blank, Good (of a blank slot), on a good rack.
-/
namespace Go.Proofs.YtkdlofgfkfhofaaGreatDoor
open Go.RowKit Go.Maps

attribute [local go_sem ↓] ldCf_eq ldRec_eq ldFr_eq stFr_eq
set_option maxRecDepth 100000 in
set_option maxHeartbeats 4000000 in
theorem jBlank_any {w : World} {o : Nat → Option Nat} {r n S : Nat} {W : Nat → Nat → List UInt8} (h : StoAt w o r n S W) {c : CfgM} (hc : c.At n S) {k s sec : Nat} (hk : c.k = (k : Int)) (hs : (s : Int) < c.slots) (hsc : sec = 1 + s * k) :
    Calls Tryz.prog 97 #[.pointer (some ⟨r, 0, none⟩), .agg #[.int .i64 c.id, .int .i64 c.k, .int .i64 c.n, .int .i64 c.stripes, .int .i64 c.slots], .int .i64 s] w fun e w' => e = .returned .nilIface ∧ ∃ o', StoP w o r n S (blkW W sec k n 0) o' w' := by
  have HKn := Lib.hid (fun v => fun hv : Below w.heap.size w v => jKnown_any (h.ext hv) hc hs)
  have HPu := Lib.hid (fun v => fun hv : Below w.heap.size w v => jPut_blank (h.ext hv) hc hk hs hsc)
  have hk0 := Bk.made w 25 #[.int .i64 c.id, .int .i64 c.k, .int .i64 c.n, .int .i64 c.stripes, .int .i64 c.slots]
  have hb0 := below_new w (.cells #[.int .i64 c.id, .int .i64 c.k, .int .i64 c.n, .int .i64 c.stripes, .int .i64 c.slots] 25)
  have HB0 := Lib.hid hb0
  have HK0 := Lib.hid hk0
  have hld0 := ldCf_bk hk0
  clear hk hs hsc hk0 hb0 hc h
  go_enter Tryz.func97, Tryz.ntmps97
  go_wp2_with fail
  with_reducible refine (HKn.out _ HB0.out).mono ?_
  rintro er w1 ⟨rfl, hb1⟩
  have HB1 := Lib.hid (HB0.out.trans (below_le HB0.out.size hb1))
  have hld1 := ldCf_bk (HK0.out.ext hb1)
  clear hb1
  go_wp2_with (first | (go_at_call 145; go_loud ((with_reducible refine (HPu.out _ HB1.out).mono ?_); rintro er w2 ⟨rfl, o2, hp2⟩; have HP2 := Lib.hid (StoP.from_ HB1.out hp2); clear hp2)) | (go_at_call 39; go_loud ((with_reducible refine (wrap_nil _ _ _).mono ?_); rintro er w3 ⟨rfl, rfl⟩)) | fail)
  go_ret
  exact ⟨rfl, o2, HP2.out⟩
set_option maxRecDepth 100000 in
set_option maxHeartbeats 4000000 in
theorem jGood_blank {w : World} {o : Nat → Option Nat} {r n S : Nat} {W : Nat → Nat → List UInt8} (h : StoAt w o r n S W) {c : CfgM} (hc : c.At n S) {k s sec : Nat} (hk : c.k = (k : Int)) (hs : (s : Int) < c.slots) (hsc : sec = 1 + s * k) {d i : Nat} (hd : d < n) (hi : i < k) (hW : W d (sec + i) = putF (blkF i)) :
    Calls Tryz.prog 172 #[.pointer (some ⟨r, 0, none⟩), .agg #[.int .i64 c.id, .int .i64 c.k, .int .i64 c.n, .int .i64 c.stripes, .int .i64 c.slots], .int .i64 d, .int .i64 s, .int .i64 i] w fun e w' => e = .returned (.tuple #[.agg (blkF i).cells, .bool true]) ∧ Below w.heap.size w w' := by
  have hin := CfgM.right_in hc.right
  have hk8 : c.k ≤ 8 := Int.le_trans hin.k2 hin.n2
  have hi8 : i < 8 := by omega
  have hsec : sectorJ c s i = ((sec + i : Nat) : Int) := by unfold sectorJ; rw [hk, hsc]; push_cast; rfl
  have hS : sec + k ≤ S := by
    have h1 := (jprod_in hin hs).2.1
    have h2 := hc.secE
    have h3 := hin.s1
    unfold CfgM.sectors at h2
    rw [hk] at h1 h2
    have h4 : ((s * k + k : Nat) : Int) ≤ c.slots * (k : Int) := by push_cast; exact h1
    omega
  obtain ⟨t, ht⟩ : ∃ t, t = sec + i := ⟨_, rfl⟩
  rw [← ht] at hW
  have HSe : Hid (∀ v, Calls Tryz.prog 174 #[.agg #[.int .i64 c.id, .int .i64 c.k, .int .i64 c.n, .int .i64 c.stripes, .int .i64 c.slots], .int .i64 s, .int .i64 i] v fun e w' => e = .returned (.int .i64 t) ∧ Below v.heap.size v w') := fun v => by
    have h := jSector_any hin hs hi8 v
    rw [hsec, ← ht] at h
    exact h
  have HGe : Hid (∀ v, Below w.heap.size w v → Calls Tryz.prog 178 #[.pointer (some ⟨r, 0, none⟩), .int .i64 d, .int .i64 t, .int .i64 2, .int .i64 i, .int .i64 (-1)] v fun e w' => e = .returned (.tuple #[.agg (blkF i).cells, .bool true]) ∧ Below v.heap.size v w') := fun v hv => by
    refine stoGet (h.ext hv) hd (by omega) 2 i (-1) (f := blkF i) ?_
    rw [hW]
    exact ofs_put (f := blkF i) (blkF_len i) (blkF_right hi8) (.inl (by omega))
  have hs1 : ¬ c.stripes ≤ 0 := by have := hin.s1; omega
  obtain ⟨W1, hW1⟩ : ∃ W1, (w.alloc (.cells #[.int .i64 c.id, .int .i64 c.k, .int .i64 c.n, .int .i64 c.stripes, .int .i64 c.slots] 25)).alloc (.cells zeroF.cells 273) = W1 := ⟨_, rfl⟩
  have hb0 := below_new w (.cells #[.int .i64 c.id, .int .i64 c.k, .int .i64 c.n, .int .i64 c.stripes, .int .i64 c.slots] 25)
  have hb1 : Below w.heap.size w W1 := by rw [← hW1]; exact hb0.trans (below_le hb0.size (below_new _ _))
  have hkc : Bk W1 w.heap.size 25 #[.int .i64 c.id, .int .i64 c.k, .int .i64 c.n, .int .i64 c.stripes, .int .i64 c.slots] := by rw [← hW1]; exact (Bk.made _ _ _).ext (below_new _ _)
  have hkx : Bk W1 (w.heap.size + 1) 273 zeroF.cells := by
    have h := Bk.made (w.alloc (.cells #[.int .i64 c.id, .int .i64 c.k, .int .i64 c.n, .int .i64 c.stripes, .int .i64 c.slots] 25)) 273 zeroF.cells
    rw [hW1] at h
    simpa using h
  have HB1 := Lib.hid hb1
  have HKc := Lib.hid hkc
  have HKx := Lib.hid hkx
  have hld1 := ldCf_bk hkc
  have hz := zero_frm
  clear hk hs hsc hb0 hb1 hkc hkx hc h hin hk8 hW hS hsec ht hi hd hi8
  go_enter Tryz.func172, Tryz.ntmps172
  go_wp2_with fail
  with_reducible refine (HSe.out _).mono ?_
  rintro er w2 ⟨rfl, hb2⟩
  have HB2 := Lib.hid (HB1.out.trans (below_le HB1.out.size hb2))
  have HKc := Lib.hid (HKc.out.ext hb2)
  have HKx := Lib.hid (HKx.out.ext hb2)
  clear hb2 hld1 HB1
  go_wp2_with fail
  with_reducible refine (HGe.out _ HB2.out).mono ?_
  rintro er w3 ⟨rfl, hb3⟩
  have hst := stFr_new w3 zeroF (blkF i) blank_len (blkF_len i)
  have hb4 := below_new w3 (.cells (blkF i).cells 273)
  have hkf := Bk.made w3 273 (blkF i).cells
  have hkc := (HKc.out.ext hb3).ext hb4
  have hkx := (HKx.out.ext hb3).ext hb4
  have hB := (HB2.out.trans (below_le HB2.out.size hb3)).trans (below_le (Nat.le_trans HB2.out.size hb3.size) hb4)
  obtain ⟨w4, hw4⟩ : ∃ w4, w3.alloc (.cells (blkF i).cells 273) = w4 := ⟨_, rfl⟩
  rw [hw4] at hst hkf hkc hkx hB
  have f2 : w4.cell? ⟨w3.heap.size, 2, none⟩ = some (.int .i64 0) := hkf.cell 2
  have f3 : w4.cell? ⟨w3.heap.size, 3, none⟩ = some (.int .i64 0) := hkf.cell 3
  have c3 : w4.cell? ⟨w.heap.size, 3, none⟩ = some (.int .i64 c.stripes) := hkc.cell 3
  have hld4 := ldFr_bk hkf (blkF_len i)
  have hst4 := stF_bk w4 (w.heap.size + 1) zeroF (blkF i) hkx blank_len (blkF_len i)
  have HKx := Lib.hid hkx
  have HB := Lib.hid hB
  clear hkf hkc hkx hB hw4 hb3 hb4 HB2 HKc
  go_wp2_with fail
  exact bodyPost_ret (res_frm rfl _ _ (w.heap.size + 1) (blkF i) rfl (Bk.rowF HKx.out _) (blkF_len i)) rfl ⟨rfl, HB.out.grown (row := some (w.heap.size + 1)) (grown_rowF _ _ _) HB.out.size (fun k hk => by injection hk with hk; omega)⟩
end Go.Proofs.YtkdlofgfkfhofaaGreatDoor
