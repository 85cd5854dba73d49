import Derived.Test.YtkdlofgfkfhofaaGreatDoorP07
import Derived.Deep.MidRow
import Derived.Deep.WholeRow
import Derived.Test.YtkdlofgfkfhofaaGreatDoorP04
/-
  super: Put.
-/
namespace Go.Proofs.YtkdlofgfkfhofaaGreatDoor
open Go.RowKit Go.Maps

theorem block_len (c : CfgM) (i : Int) : (c.block i).data.length = 108 := by
  unfold CfgM.block
  simp [leB_len, rep_len]
theorem block_right (c : CfgM) {i : Int} (h0 : 0 ≤ i) (h7 : i ≤ 7) : (c.block i).right = true := by
  unfold CfgM.block Frm.right inB
  simp [h0, h7]
/-- a frame's bytes are written -/
def PutAt (w w' : World) (f : Frm) (g : Nat) : Prop := w.heap.size ≤ g ∧ RdB w' (some ⟨g, 0, none⟩) 128 128 (putF f) ∧ Below w.heap.size w w'
theorem putF_any {f : Frm} (hl : f.data.length = 108) (hr : f.right = true) (w : World) : Calls Tryz.prog 149 #[.agg f.cells] w fun e w' => ∃ g, e = .returned (.slice (some ⟨g, 0, none⟩) 128 128) ∧ PutAt w w' f g :=
  (put_yes f hl hr w).mono fun e w' ⟨g, h1, h2, h3, h4⟩ => ⟨g, h2, h1, by
    have h5 : putF f = f.put := if_pos hr
    rw [h5]
    exact h3.whole 128 128 (put_len hl).symm (Nat.le_refl _) (by omega), h4⟩
theorem RackAt.newO {w : World} {o : Nat → Option Nat} {r : Nat} {M : RackM} (h : RackAt w o r M) {g : Nat} (hg : w.heap.size ≤ g) : o g = none := by
  cases e : o g with
  | none => rfl
  | some x =>
    have := h.lim (b := g) (by rw [e]; simp)
    omega
attribute [local go_sem ↓] ldCf_eq
set_option maxRecDepth 100000 in
set_option maxHeartbeats 4000000 in
theorem superPut_any {o : Nat → Option Nat} {r : Nat} {M : RackM} {w : World} (hR : RackAt w o r M) {c : CfgM} (hf : c.fits M = true) {i : Int} (h0 : 0 ≤ i) (h7 : i ≤ 7) {M' : RackM} {k : Int} (hM : superPut M c i = (M', k)) :
    Calls Tryz.prog 99 #[.pointer (some ⟨r, 0, none⟩), .agg #[.int .i64 c.id, .int .i64 c.k, .int .i64 c.n, .int .i64 c.stripes, .int .i64 c.slots], .int .i64 i] w fun e w' => ∃ v, e = .returned v ∧ ErrR 3 v k ∧ RkPost w o r M' w' := by
  have hk := Bk.made w 25 #[.int .i64 c.id, .int .i64 c.k, .int .i64 c.n, .int .i64 c.stripes, .int .i64 c.slots]
  have hb := below_new w (.cells #[.int .i64 c.id, .int .i64 c.k, .int .i64 c.n, .int .i64 c.stripes, .int .i64 c.slots] 25)
  have HFi : Hid (∀ v, Below w.heap.size w v → Calls Tryz.prog 51 #[.pointer (some ⟨r, 0, none⟩), .agg #[.int .i64 c.id, .int .i64 c.k, .int .i64 c.n, .int .i64 c.stripes, .int .i64 c.slots]] v fun e w' => e = .returned (.bool true) ∧ Below v.heap.size v w') := fun v hv => superFits_yes (hR.ext hv) hf
  have hin := CfgM.right_in (CfgM.fits_in hf).1
  have HBl := Lib.hid (fun w => superBlock_any hin i w)
  have HPu := Lib.hid (putF_any (block_len c i) (block_right c h0 h7))
  unfold superPut at hM
  rw [if_neg (by rw [hf]; simp)] at hM
  obtain ⟨M1, k1, hw1⟩ : ∃ M1 k1, M.write i 0 (putF (c.block i)) = (M1, k1) := ⟨_, _, rfl⟩
  rw [hw1] at hM
  dsimp only at hM
  have HW : Hid (∀ v g, Below w.heap.size w v → w.heap.size ≤ g → RdB v (some ⟨g, 0, none⟩) 128 128 (putF (c.block i)) → Calls Tryz.prog 95 #[.pointer (some ⟨r, 0, none⟩), .int .i64 i, .int .i64 0, .slice (some ⟨g, 0, none⟩) 128 128] v fun e w' => ∃ u, e = .returned u ∧ ErrR 2 u k1 ∧ RkPost w o r M1 w') := fun v g hv hg hr =>
    (rackWrite_any (hR.ext hv) i 0 _ 128 128 _ hr (fun ad e => by injection e with e; rw [← e]; exact hR.newO hg) hw1).mono fun e w' ⟨u, a1, a2, a3⟩ => ⟨u, a1, a2, RkPost.from_ hv a3⟩
  have HR := Lib.hid hR
  by_cases hk1 : k1 = 0
  · subst hk1
    rw [if_neg (by simp)] at hM
    have HFl : Hid (∀ v, RkPost w o r M1 v → Calls Tryz.prog 96 #[.pointer (some ⟨r, 0, none⟩), .int .i64 i] v fun e w' => ∃ u, e = .returned u ∧ ErrR 2 u k ∧ RkPost w o r M' w') := fun v ⟨o1, a1, a2, a3⟩ =>
      (rackFlush_any a1 i hM).mono fun e w' ⟨u, b1, b2, b3⟩ => ⟨u, b1, b2, RkPost.via a2 a3 b3⟩
    have HW0 : Hid (∀ er, ErrR 2 er 0 → er = .nilIface) := fun _ h => h.of_nil
    have HK := Lib.hid hk
    have HBw := Lib.hid hb
    clear hM hw1 hR hin hf hb
    go_enter Tryz.func99, Tryz.ntmps99
    have hld0 := ldCf_bk hk
    clear hk
    go_wp2_with (first | (go_at_call 51; go_loud ((with_reducible refine (HFi.out _ HBw.out).mono ?_); rintro er w3 ⟨rfl, hb3⟩; have HB3 := Lib.hid (HBw.out.trans (below_le HBw.out.size hb3)); have HK3 := Lib.hid (HK.out.ext hb3); have hld3 := ldCf_bk HK3.out; clear hb3)) | (go_at_call 150; go_loud ((with_reducible refine (HBl.out _).mono ?_); rintro er w4 ⟨rfl, hb4⟩; have HB4 := Lib.hid (HB3.out.trans (below_le HB3.out.size hb4)); clear hb4)) | (go_at_call 149; go_loud ((with_reducible refine (HPu.out _).mono ?_); rintro er w5 ⟨g5, rfl, hg5, hr5, hb5⟩; have HB5 := Lib.hid (HB4.out.trans (below_le HB4.out.size hb5)); have HR5 := Lib.hid hr5; have HG5 : Hid (w.heap.size ≤ g5) := Nat.le_trans HB4.out.size hg5; clear hg5 hr5 hb5)) | (go_at_call 95; go_loud ((with_reducible refine (HW.out _ _ HB5.out HG5.out HR5.out).mono ?_); rintro er w6 ⟨v6, rfl, he6, hp6⟩; obtain rfl := HW0.out _ he6; have HP6 := Lib.hid hp6; clear he6 hp6)) | (go_at_call 96; go_loud ((with_reducible refine (HFl.out _ HP6.out).mono ?_); rintro er w7 ⟨v7, rfl, he7, hp7⟩; have HE7 := Lib.hid he7; have HP7 := Lib.hid hp7; clear he7 hp7)) | (go_at_call 39; go_loud ((with_reducible refine (wrapR HE7.out _ _ _).mono ?_); rintro er w8 ⟨v8, rfl, he8, rfl⟩)) | fail)
    go_ret
    exact ⟨_, rfl, he8, HP7.out⟩
  · rw [if_pos hk1] at hM
    obtain ⟨rfl, rfl⟩ := Prod.mk.inj hM
    have HK1 := Lib.hid hk1
    have HK := Lib.hid hk
    have HBw := Lib.hid hb
    clear hM hw1 hR hin hf hb hk1
    go_enter Tryz.func99, Tryz.ntmps99
    have hld0 := ldCf_bk hk
    clear hk
    go_wp2_with (first | (go_at_call 51; go_loud ((with_reducible refine (HFi.out _ HBw.out).mono ?_); rintro er w3 ⟨rfl, hb3⟩; have HB3 := Lib.hid (HBw.out.trans (below_le HBw.out.size hb3)); have HK3 := Lib.hid (HK.out.ext hb3); have hld3 := ldCf_bk HK3.out; clear hb3)) | (go_at_call 150; go_loud ((with_reducible refine (HBl.out _).mono ?_); rintro er w4 ⟨rfl, hb4⟩; have HB4 := Lib.hid (HB3.out.trans (below_le HB3.out.size hb4)); clear hb4)) | (go_at_call 149; go_loud ((with_reducible refine (HPu.out _).mono ?_); rintro er w5 ⟨g5, rfl, hg5, hr5, hb5⟩; have HB5 := Lib.hid (HB4.out.trans (below_le HB4.out.size hb5)); have HR5 := Lib.hid hr5; have HG5 : Hid (w.heap.size ≤ g5) := Nat.le_trans HB4.out.size hg5; clear hg5 hr5 hb5)) | (go_at_call 95; go_loud ((with_reducible refine (HW.out _ _ HB5.out HG5.out HR5.out).mono ?_); rintro er w6 ⟨v6, rfl, he6, hp6⟩; obtain ⟨ty6, x6, rfl⟩ := he6.iface HK1.out; have HE6 := Lib.hid he6; have HP6 := Lib.hid hp6; clear he6 hp6)) | (go_at_call 39; go_loud ((with_reducible refine (wrapR HE6.out _ _ _).mono ?_); rintro er w8 ⟨v8, rfl, he8, rfl⟩)) | fail)
    go_ret
    exact ⟨_, rfl, he8, HP6.out⟩
end Go.Proofs.YtkdlofgfkfhofaaGreatDoor

/-
  super: Get.
-/
namespace Go.Proofs.YtkdlofgfkfhofaaGreatDoor
open Go.RowKit Go.Maps

theorem RackM.get_len {M : RackM} {i s k l st : Int} {f : Frm} (h : M.get i s k l st = some f) : f.data.length = 108 := by
  unfold RackM.get at h
  split at h
  · cases h
  · rename_i b _
    split at h
    · rename_i hg
      injection h with h
      rw [← h]
      have h1 := hg.1
      unfold got at h1
      rw [Bool.and_eq_true] at h1
      exact frmOf_len b (of_decide_eq_true h1.1)
    · cases h
def stCf (v u : Value) : Sem Unit := Instr.storeAt 25 v u
theorem stCf_eq (v u : Value) : Instr.storeAt 25 v u = stCf v u := rfl
theorem one_cf (a b c d e : Int) : (#[Value.int .i64 a, .int .i64 b, .int .i64 c, .int .i64 d, .int .i64 e]).all (·.oneCell') = true :=
  all_oneCell_toArray (cs := [.int .i64 a, .int .i64 b, .int .i64 c, .int .i64 d, .int .i64 e]) fun v hv => by
    simp only [List.mem_cons, List.mem_nil_iff, or_false] at hv
    rcases hv with rfl | rfl | rfl | rfl | rfl <;> rfl
theorem stCf_bk (w : World) (g : Nat) (old : Array Value) (ho : old.size = 5) (a b c d e : Int) (h : Bk w g 25 old) : (stCf (.pointer (some ⟨g, 0, none⟩)) (.agg #[.int .i64 a, .int .i64 b, .int .i64 c, .int .i64 d, .int .i64 e])).run Tryz.prog w = .ok () (w.setRow g #[.int .i64 a, .int .i64 b, .int .i64 c, .int .i64 d, .int .i64 e]) := by
  unfold stCf
  simp only [Instr.storeAt, Instr.sureAddr, Sem.run_bind, Sem.run_pure, Result.andThen_ok, run_storeVar_row _ _ _ _ old #[.int .i64 a, .int .i64 b, .int .i64 c, .int .i64 d, .int .i64 e] h size_cfg (by rw [ho]; rfl) (one_cf a b c d e)]
theorem stCf_new (w : World) (g : Nat) (hg : g = w.heap.size) (old : Array Value) (ho : old.size = 5) (a b c d e : Int) : (stCf (.pointer (some ⟨g, 0, none⟩)) (.agg #[.int .i64 a, .int .i64 b, .int .i64 c, .int .i64 d, .int .i64 e])).run Tryz.prog (w.alloc (.cells old 25)) = .ok () (w.alloc (.cells #[.int .i64 a, .int .i64 b, .int .i64 c, .int .i64 d, .int .i64 e] 25)) := by
  subst hg
  exact run_storeAt_new w 25 _ _ size_cfg (by rw [ho]; rfl) (one_cf a b c d e)
theorem res_cfg {fn : Func} {p u : Tmp} (h : fn.results = #[.cell p 25, .tmp u]) (tmps : Array Value) (w : World) (g : Nat) (a b c d e : Int) (hp : tmps.getD p undef = .pointer (some ⟨g, 0, none⟩)) (hb : Bk w g 25 #[.int .i64 a, .int .i64 b, .int .i64 c, .int .i64 d, .int .i64 e]) :
    (results fn tmps).run Tryz.prog w = .ok (.tuple #[.agg #[.int .i64 a, .int .i64 b, .int .i64 c, .int .i64 d, .int .i64 e], tmps.getD u undef]) w := by
  rw [results_cell_tmp h, hp]
  simp only [asAddr, Sem.run_pure, Result.andThen_ok, run_loadVar_row w g _ _ _ (0, 0) _ hb Tryz.underlying25 rfl size_cfg]
attribute [local go_sem] w8_nn w8_256 wrap_i64_w8 wrap64_w8
attribute [local go_sem ↓] ldCf_eq stCf_eq ldFr_eq stFr_eq
set_option maxRecDepth 100000 in
set_option maxHeartbeats 4000000 in
theorem superGet_any {o : Nat → Option Nat} {r : Nat} {M : RackM} {w : World} (hR : RackAt w o r M) (i : Int) (hg : ∀ f, M.get i 0 1 i 0 = some f → (cfgOf f).right = true) :
    Calls Tryz.prog 170 #[.pointer (some ⟨r, 0, none⟩), .int .i64 i] w fun e w' => e = .returned (.tuple #[((superGet M i).getD noCfg).val, .bool (superGet M i).isSome]) ∧ Below w.heap.size w w' := by
  obtain ⟨R, hM⟩ : ∃ R, superGet M i = R := ⟨_, rfl⟩
  rw [hM]
  unfold superGet at hM
  have HG : Hid (∀ v, Below w.heap.size w v → Calls Tryz.prog 178 #[.pointer (some ⟨r, 0, none⟩), .int .i64 i, .int .i64 0, .int .i64 1, .int .i64 i, .int .i64 0] v fun e w' => e = .returned (.tuple #[.agg ((M.get i 0 1 i 0).getD zeroF).cells, .bool (M.get i 0 1 i 0).isSome]) ∧ Below v.heap.size v w') := fun v hv => rackGet_any (hR.ext hv) i 0 1 i 0
  have HM := Lib.hid hM
  have hz := zero_frm
  clear hM hR
  go_enter Tryz.func170, Tryz.ntmps170
  have hb0 := below_new w (.cells #[.int .i64 0, .int .i64 0, .int .i64 0, .int .i64 0, .int .i64 0] 25)
  have hk0 : Bk (w.alloc (.cells #[.int .i64 0, .int .i64 0, .int .i64 0, .int .i64 0, .int .i64 0] 25)) w.heap.size 25 noCfg.cells := Bk.made _ _ _
  go_wp2_with fail
  generalize w.alloc (.cells #[.int .i64 0, .int .i64 0, .int .i64 0, .int .i64 0, .int .i64 0] 25) = W0 at hb0 hk0 ⊢
  have HB0 := Lib.hid hb0
  have HK0 := Lib.hid hk0
  clear hb0 hk0
  with_reducible refine (HG.out _ HB0.out).mono ?_
  rintro er w1 ⟨rfl, hb1⟩
  have HB1 := Lib.hid (HB0.out.trans (below_le HB0.out.size hb1))
  have HK1 := Lib.hid (HK0.out.ext hb1)
  clear hb1
  have hb2z := below_new w1 (.cells zeroF.cells 273)
  cases hget : M.get i 0 1 i 0 with
  | none =>
    obtain rfl : R = none := by
      have h := HM.out
      rw [hget] at h
      exact h.symm
    have hst1 := stFr_new w1 zeroF zeroF blank_len blank_len
    have hk2 : Bk (w1.alloc (.cells zeroF.cells 273)) w.heap.size 25 noCfg.cells := HK1.out.ext hb2z
    have hst2 := stCf_bk _ w.heap.size noCfg.cells rfl 0 0 0 0 0 hk2
    have HK2 := Lib.hid hk2
    have HB2 := Lib.hid (HB1.out.trans (below_le HB1.out.size hb2z))
    clear hb2z hk2
    go_wp2_with fail
    refine bodyPost_ret (res_cfg rfl _ _ w.heap.size 0 0 0 0 0 rfl (Bk.rowF HK2.out _)) rfl ⟨rfl, HB2.out.grown (grown_rowF _ _ _) HB2.out.size (fun k hk => by injection hk with hk; omega)⟩
  | some f =>
    have hfl := RackM.get_len hget
    have hst1 := stFr_new w1 zeroF f blank_len hfl
    have hb2 := below_new w1 (.cells f.cells 273)
    have hkf := Bk.made w1 273 f.cells
    have HK2 := Lib.hid (HK1.out.ext hb2)
    have HB2 := Lib.hid (HB1.out.trans (below_le HB1.out.size hb2))
    have HKf := Lib.hid hkf
    have hcell : ∀ j, j < 108 → (w1.alloc (.cells f.cells 273)).cell? ⟨w1.heap.size, 4 + j, none⟩ = some (.int .u8 (w8 (f.data[j]?.getD 0))) := fun j hj => by
      rw [hkf.cell]
      have h := frm_get (a := f.kind) (b := f.slot) (c := f.stripe) (d := f.gen) (D := f.data) (j := j) (by omega)
      rw [List.getElem?_eq_getElem (by omega)]
      exact h
    obtain ⟨b4, h4⟩ : ∃ b, f.data[4]?.getD 0 = b := ⟨_, rfl⟩
    obtain ⟨b5, h5⟩ : ∃ b, f.data[5]?.getD 0 = b := ⟨_, rfl⟩
    obtain ⟨b6, h6⟩ : ∃ b, f.data[6]?.getD 0 = b := ⟨_, rfl⟩
    obtain ⟨b7, h7⟩ : ∃ b, f.data[7]?.getD 0 = b := ⟨_, rfl⟩
    have d4 := hcell 4 (by omega)
    have d5 := hcell 5 (by omega)
    have d6 := hcell 6 (by omega)
    have d7 := hcell 7 (by omega)
    rw [h4] at d4
    rw [h5] at d5
    rw [h6] at d6
    rw [h7] at d7
    have hcf : cfgOf f = ⟨leN (f.data.take 4), w8 b4, w8 b5, w8 b6, w8 b7⟩ := by unfold cfgOf; rw [h4, h5, h6, h7]
    have hsz : (w1.alloc (.cells f.cells 273)).heap.size = w1.heap.size + 1 := by simp
    have hst3 := stCf_new (w1.alloc (.cells f.cells 273)) (w1.heap.size + 1) hsz.symm #[.int .i64 0, .int .i64 0, .int .i64 0, .int .i64 0, .int .i64 0] rfl 0 (w8 b4) (w8 b5) (w8 b6) (w8 b7)
    have hb3 := below_new (w1.alloc (.cells f.cells 273)) (.cells #[.int .i64 0, .int .i64 (w8 b4), .int .i64 (w8 b5), .int .i64 (w8 b6), .int .i64 (w8 b7)] 25)
    have hk3 := Bk.made (w1.alloc (.cells f.cells 273)) 25 #[.int .i64 0, .int .i64 (w8 b4), .int .i64 (w8 b5), .int .i64 (w8 b6), .int .i64 (w8 b7)]
    rw [hsz] at hk3
    have HK3 := Lib.hid (HK2.out.ext hb3)
    have HB3 := Lib.hid (HB2.out.trans (below_le HB2.out.size hb3))
    have HKf3 := Lib.hid (HKf.out.ext hb3)
    have HCf := Lib.hid hcf
    clear hb2 hkf hcell hb2z hsz h4 h5 h6 h7 hcf
    go_wp2_with fail
    generalize (w1.alloc (.cells f.cells 273)).alloc (.cells #[.int .i64 0, .int .i64 (w8 b4), .int .i64 (w8 b5), .int .i64 (w8 b6), .int .i64 (w8 b7)] 25) = W3 at hb3 hk3 HK3 HB3 HKf3 ⊢
    have H30 : Hid (Bk W3 (w1.heap.size + 1) 25 #[.int .i64 (wrapN (leN (f.data.take 0))), .int .i64 (w8 b4), .int .i64 (w8 b5), .int .i64 (w8 b6), .int .i64 (w8 b7)]) := hk3
    obtain ⟨gf, hgf⟩ : ∃ g, g = w1.heap.size := ⟨_, rfl⟩
    rw [← hgf] at H30 HKf3 ⊢
    have HGf := Lib.hid hgf
    have HFl := Lib.hid hfl
    clear d4 d5 d6 d7 hst3 hst1 hk3 hb3 hgf hfl
    obtain ⟨gc, hgc⟩ : ∃ g, g = gf + 1 := ⟨_, rfl⟩
    rw [← hgc] at H30 ⊢
    have HGc := Lib.hid hgc
    clear hgc
    go_loopw [37] (fun i' wr => ∃ j : Nat, j ≤ 4 ∧ i' = .int .i64 j ∧ Hid (Bk wr gc 25 #[.int .i64 (wrapN (leN (f.data.take j))), .int .i64 (w8 b4), .int .i64 (w8 b5), .int .i64 (w8 b6), .int .i64 (w8 b7)]) ∧ Hid (Turned (fun b => b = gc) W3 wr)) (fun i' _ => 4 - (intOf i').toNat)
    case atStart => exact ⟨0, Nat.zero_le _, rfl, H30, Turned.refl _ _⟩
    case round =>
      obtain ⟨j, hj, rfl, hF, hT⟩ := hrel
      clear H30
      by_cases hlt : j < 4
      · have hi : (j : Int) < 4 := by omega
        obtain ⟨x, hx⟩ : ∃ x, f.data[j]? = some x := ⟨_, List.getElem?_eq_getElem (by rw [HFl.out]; omega)⟩
        have k0 : wr.cell? ⟨gc, 0, none⟩ = some (.int .i64 (wrapN (leN (f.data.take j)))) := hF.out.cell 0
        have f0 : wr.frozen? ⟨gc, 0, none⟩ = false := hF.out.thaw 0
        have k1 : wr.cell? ⟨gf, 4 + j, none⟩ = some (.int .u8 (w8 x)) := by
          have h := (HKf3.out.turned hT.out (by have := HGc.out; omega)).cell (4 + j)
          rw [h]
          have h2 := frm_get (a := f.kind) (b := f.slot) (c := f.stripe) (d := f.gen) (D := f.data) (j := j) (by rw [HFl.out]; omega)
          rw [List.getElem?_eq_getElem (by rw [HFl.out]; omega)] at hx
          injection hx with hx
          rw [hx] at h2
          exact h2
        have htk : f.data.take (j + 1) = f.data.take j ++ [x] := by rw [List.take_add_one, hx]; rfl
        have hlt8 := leN_lt (f.data.take j)
        rw [List.length_take, Nat.min_eq_left (by rw [HFl.out]; omega), pow256] at hlt8
        have hst := or_step (leN (f.data.take j)) j x (by omega) hlt8
        have Hl8 := Lib.hid (show leN (f.data.take (j + 1)) = leN (f.data.take j) + 2 ^ (8 * j) * x.toNat by rw [htk, leN_snoc, List.length_take, Nat.min_eq_left (by rw [HFl.out]; omega), pow256])
        have HStep : Hid (Bk (wr.setCell ⟨gc, 0, none⟩ (.int .i64 (wrapN (leN (f.data.take j) + 2 ^ (8 * j) * x.toNat)))).drew gc 25 #[.int .i64 (wrapN (leN (f.data.take (j + 1)))), .int .i64 (w8 b4), .int .i64 (w8 b5), .int .i64 (w8 b6), .int .i64 (w8 b7)]) := by
          have h := hF.out.put 0 (.int .i64 (wrapN (leN (f.data.take j) + 2 ^ (8 * j) * x.toNat)))
          rw [← Hl8.out] at h ⊢
          exact h
        have HTs : Hid (Turned (fun b => b = gc) W3 (wr.setCell ⟨gc, 0, none⟩ (.int .i64 (wrapN (leN (f.data.take j) + 2 ^ (8 * j) * x.toNat)))).drew) := (hT.out.then_grown (grown_set wr ⟨gc, 0, none⟩ _) (fun k e => .inl (Option.some.inj e).symm)).then_below (below_drew1 (Below.refl _ _))
        clear hx htk hlt8
        go_wp2_with fail
        go_region
        go_wp2_with fail
        exact ⟨⟨j + 1, by omega, by go_num, HStep, HTs⟩, by simp [intOf]; omega⟩
      · have hj4 : j = 4 := by omega
        subst hj4
        have hlt8 := leN_lt (f.data.take 4)
        rw [List.length_take, Nat.min_eq_left (by rw [HFl.out]; omega)] at hlt8
        have hwn : wrapN (leN (f.data.take 4)) = (leN (f.data.take 4) : Int) := by
          unfold wrapN
          rw [if_pos (by omega)]
        rw [hwn] at hF
        have hC : Bk wr gc 25 #[.int .i64 (cfgOf f).id, .int .i64 (cfgOf f).k, .int .i64 (cfgOf f).n, .int .i64 (cfgOf f).stripes, .int .i64 (cfgOf f).slots] := by rw [HCf.out]; exact hF.out
        have hF3 := HKf3.out.turned hT.out (by have := HGc.out; omega)
        have hz3 := HK3.out.turned hT.out (by have := HGc.out; have := HGf.out; have := HK1.out.lt; omega)
        have hB3 : Below w.heap.size w wr := hT.out.below HB3.out HB3.out.size (fun i e => by have := HGc.out; have := HGf.out; have := HK1.out.lt; omega)
        have hrt := hg f hget
        obtain ⟨C, hCC⟩ : ∃ C, cfgOf f = C := ⟨_, rfl⟩
        rw [hCC] at hC hrt
        have hRe : R = if f = C.block i then some C else none := by
          have h := HM.out
          rw [hget] at h
          dsimp only at h
          rw [hCC, hrt] at h
          rw [← h]
          by_cases e : f = C.block i
          · rw [if_pos ⟨rfl, e⟩, if_pos e]
          · rw [if_neg (fun h => e h.2), if_neg e]
        have hld0 : ∀ t : Ext wr, (ldCf (.pointer (some ⟨gc, 0, none⟩))).run Tryz.prog t.w = .ok (.agg #[.int .i64 C.id, .int .i64 C.k, .int .i64 C.n, .int .i64 C.stripes, .int .i64 C.slots]) t.w := fun t => ldCf_bk (hC.ext t.below)
        have hldf : ∀ t : Ext wr, (ldFr (.pointer (some ⟨gf, 0, none⟩))).run Tryz.prog t.w = .ok (.agg f.cells) t.w := fun t => ldFr_bk (hF3.ext t.below) HFl.out
        have HRt := Lib.hid (fun t : Ext wr => ext_of (superRight_yes hrt t.w))
        have HBl := Lib.hid (fun t : Ext wr => ext_of (superBlock_any (CfgM.right_in hrt) i t.w))
        obtain ⟨b, hbn⟩ : ∃ b, f.same (C.block i) = b := ⟨_, rfl⟩
        have heq : ∀ w, (Op.equalIn 10000 273 (.agg f.cells) (.agg (C.block i).cells)).run Tryz.prog w = .ok b w := fun w => by rw [← hbn]; exact eq_frm f (C.block i) HFl.out (block_len C i) w
        have HBn : Hid (b = true ↔ f = C.block i) := by rw [← hbn]; exact same_iffF _ _
        have HC := Lib.hid hC
        have HF3 := Lib.hid hF3
        have HZ3 := Lib.hid hz3
        have HB4 := Lib.hid hB3
        have HRe := Lib.hid hRe
        clear hC hF3 hz3 hB3 hRe hrt hCC hwn hlt8 hg hget hF hT hbn
        go_wp2_with fail
        refine wp_region_ext (by kernel_rfl) (by kernel_rfl) ?_
        cases b with
        | true =>
          have hR := HRe.out
          rw [if_pos (HBn.out.mp rfl)] at hR
          subst hR
          repeat (go_big_quiet_step (first | (go_at_call 91; with_reducible exact HRt.out _) | (go_at_call 150; with_reducible exact HBl.out _)))
          refine wpQuiet_nil ?_
          intro _ hw'
          obtain ⟨t, hw''⟩ := hw'
          subst hw''
          have hst5 := stCf_bk t.w w.heap.size noCfg.cells rfl C.id C.k C.n C.stripes C.slots (HZ3.out.ext t.below)
          have hld5 := hld0 t
          go_wp2_with fail
          refine bodyPost_ret (res_cfg rfl _ _ w.heap.size C.id C.k C.n C.stripes C.slots rfl (Bk.rowF (HZ3.out.ext t.below) _)) rfl ⟨rfl, (HB4.out.trans (below_le HB4.out.size t.below)).grown (grown_rowF _ _ _) (HB4.out.trans (below_le HB4.out.size t.below)).size (fun k hk => by injection hk with hk; omega)⟩
        | false =>
          have hR := HRe.out
          rw [if_neg (fun h => Bool.noConfusion (HBn.out.mpr h))] at hR
          subst hR
          repeat (go_big_quiet_step (first | (go_at_call 91; with_reducible exact HRt.out _) | (go_at_call 150; with_reducible exact HBl.out _)))
          refine wpQuiet_nil ?_
          intro _ hw'
          obtain ⟨t, hw''⟩ := hw'
          subst hw''
          have hst5 := stCf_bk t.w w.heap.size noCfg.cells rfl 0 0 0 0 0 (HZ3.out.ext t.below)
          go_wp2_with fail
          refine bodyPost_ret (res_cfg rfl _ _ w.heap.size 0 0 0 0 0 rfl (Bk.rowF (HZ3.out.ext t.below) _)) rfl ⟨rfl, (HB4.out.trans (below_le HB4.out.size t.below)).grown (grown_rowF _ _ _) (HB4.out.trans (below_le HB4.out.size t.below)).size (fun k hk => by injection hk with hk; omega)⟩
end Go.Proofs.YtkdlofgfkfhofaaGreatDoor

/-
  A good rack by what its sectors are read as; contracts of its calls.
-/
namespace Go.Proofs.YtkdlofgfkfhofaaGreatDoor
open Go.RowKit Go.Maps

structure Sto (M : RackM) (n S : Nat) (W : Nat → Nat → List UInt8) : Prop where
  good : M.Good
  nE : M.n = n
  secE : M.sectors = S
  rd : ∀ j t, j < n → M.rd j t = W j t
def putS (W : Nat → Nat → List UInt8) (i s : Nat) (b : List UInt8) : Nat → Nat → List UInt8 := fun j t => if j = i ∧ t = s then b else W j t
theorem Sto.same {M : RackM} {n S : Nat} {W W' : Nat → Nat → List UInt8} (h : Sto M n S W) (he : ∀ j t, j < n → W j t = W' j t) : Sto M n S W' := ⟨h.good, h.nE, h.secE, fun j t hj => (h.rd j t hj).trans (he j t hj)⟩
theorem Sto.write {M : RackM} {n S : Nat} {W : Nat → Nat → List UInt8} (h : Sto M n S W) {i s : Nat} {b : List UInt8} (hi : i < n) (hs : s < S) (hb : b.length = 128) : ∃ M', M.write (i : Int) (s : Int) b = (M', 0) ∧ Sto M' n S (putS W i s b) := by
  have hi' : i < M.n := by rw [h.nE]; exact hi
  have hs' : s < M.sectors := by rw [h.secE]; exact hs
  refine ⟨_, h.good.write hi' hs' hb, h.good.set (h.good.up i hi'), h.nE, (RackM.sec_write M i s b).trans h.secE, fun j t hj => ?_⟩
  show (if j = i then (M.d i).write s b else M.d j).read t = if j = i ∧ t = s then b else W j t
  by_cases e : j = i
  · subst e
    rw [if_pos rfl, DskM.read_write]
    by_cases e2 : t = s
    · rw [if_pos e2, if_pos ⟨rfl, e2⟩]
    · rw [if_neg e2, if_neg (fun h => e2 h.2)]
      exact h.rd j t hj
  · rw [if_neg e, if_neg (fun h => e h.1)]
    exact h.rd j t hj
theorem Sto.flush {M : RackM} {n S : Nat} {W : Nat → Nat → List UInt8} (h : Sto M n S W) {i : Nat} (hi : i < n) : ∃ M', M.flush (i : Int) = (M', 0) ∧ Sto M' n S W := by
  have hi' : i < M.n := by rw [h.nE]; exact hi
  refine ⟨_, h.good.flush hi', h.good.set (h.good.up i hi'), h.nE, (RackM.sec_flush M i).trans h.secE, fun j t hj => ?_⟩
  show (if j = i then (M.d i).flush else M.d j).read t = W j t
  rw [← h.rd j t hj]
  by_cases e : j = i
  · subst e
    rw [if_pos rfl]
    exact DskM.read_flush _ _
  · rw [if_neg e]
    rfl
/-- the frame that a sector tells -/
def ofs (b : List UInt8) (kind slot stripe : Int) : Option Frm := if got b = true ∧ (frmOf b).kind = kind ∧ (frmOf b).slot = slot ∧ (stripe < 0 ∨ (frmOf b).stripe = stripe) then some (frmOf b) else none
theorem Sto.get {M : RackM} {n S : Nat} {W : Nat → Nat → List UInt8} (h : Sto M n S W) {i s : Nat} (hi : i < n) (hs : s < S) (kind slot stripe : Int) : M.get (i : Int) (s : Int) kind slot stripe = ofs (W i s) kind slot stripe := by
  unfold RackM.get
  rw [h.good.read (by rw [h.nE]; exact hi) (by rw [h.secE]; exact hs), h.rd i s hi]
  rfl
theorem ofs_put {f : Frm} (hl : f.data.length = 108) (hr : f.right = true) {st : Int} (hs : st < 0 ∨ f.stripe = st) : ofs (putF f) f.kind f.slot st = some f := by
  unfold ofs
  have h5 : putF f = f.put := if_pos hr
  rw [h5, frmOf_put hl hr, got_put hl hr, if_pos ⟨rfl, rfl, rfl, hs⟩]
theorem putF_len {f : Frm} (hl : f.data.length = 108) (hr : f.right = true) : (putF f).length = 128 := by
  have h5 : putF f = f.put := if_pos hr
  rw [h5, put_len hl]
/-- a good rack in memory -/
def StoAt (w : World) (o : Nat → Option Nat) (r n S : Nat) (W : Nat → Nat → List UInt8) : Prop := ∃ M, RackAt w o r M ∧ Sto M n S W
theorem StoAt.ext {w w' : World} {o : Nat → Option Nat} {r n S : Nat} {W : Nat → Nat → List UInt8} (h : StoAt w o r n S W) (hb : Below w.heap.size w w') : StoAt w' o r n S W := by
  obtain ⟨M, h1, h2⟩ := h
  exact ⟨M, h1.ext hb, h2⟩
theorem StoAt.turned {w w' : World} {o : Nat → Option Nat} {Q : Nat → Prop} {r n S : Nat} {W : Nat → Nat → List UInt8} (h : StoAt w o r n S W) (ht : Turned Q w w') (hd : ∀ i, i < w.heap.size → o i ≠ none → ¬ Q i) : StoAt w' o r n S W := by
  obtain ⟨M, h1, h2⟩ := h
  exact ⟨M, h1.turned ht hd, h2⟩
theorem StoAt.same {w : World} {o : Nat → Option Nat} {r n S : Nat} {W W' : Nat → Nat → List UInt8} (h : StoAt w o r n S W) (he : ∀ j t, j < n → W j t = W' j t) : StoAt w o r n S W' := by
  obtain ⟨M, h1, h2⟩ := h
  exact ⟨M, h1, h2.same he⟩
theorem StoAt.newO {w : World} {o : Nat → Option Nat} {r n S : Nat} {W : Nat → Nat → List UInt8} (h : StoAt w o r n S W) {g : Nat} (hg : w.heap.size ≤ g) : o g = none := by
  obtain ⟨M, h1, h2⟩ := h
  exact h1.newO hg
theorem StoAt.lt {w : World} {o : Nat → Option Nat} {r n S : Nat} {W : Nat → Nat → List UInt8} (h : StoAt w o r n S W) : 1 ≤ n ∧ n ≤ 8 ∧ 1 ≤ S ∧ S ≤ 128 := by
  obtain ⟨M, h1, h2⟩ := h
  have h3 := h1.ok
  have h4 := h3.d 0 h3.pos
  have h5 := h2.nE
  have h6 := h2.secE
  have := h3.pos
  have := h3.few
  have := h4.pos
  have := h4.few
  unfold RackM.sectors at h6
  omega
/-- what a walk has done to a good rack -/
structure StoP (w : World) (o : Nat → Option Nat) (r n S : Nat) (W : Nat → Nat → List UInt8) (o' : Nat → Option Nat) (w' : World) : Prop where
  at_ : StoAt w' o' r n S W
  own : ∀ b, b < w.heap.size → o' b = o b
  turned : Turned (fun b => o b ≠ none) w w'
theorem StoP.refl {w : World} {o : Nat → Option Nat} {r n S : Nat} {W : Nat → Nat → List UInt8} (h : StoAt w o r n S W) : StoP w o r n S W o w := ⟨h, fun _ _ => rfl, Turned.refl _ _⟩
theorem StoP.then {w w1 w2 : World} {o o1 o2 : Nat → Option Nat} {r n S : Nat} {W W2 : Nat → Nat → List UInt8} (h : StoP w o r n S W o1 w1) (h2 : StoP w1 o1 r n S W2 o2 w2) : StoP w o r n S W2 o2 w2 :=
  ⟨h2.at_, fun b hb => (h2.own b (Nat.lt_of_lt_of_le hb h.turned.size)).trans (h.own b hb), h.turned.trans h2.turned fun b hb ho => by rw [h.own b hb] at ho; exact ho⟩
theorem StoP.ext {w w1 w2 : World} {o o1 : Nat → Option Nat} {r n S : Nat} {W : Nat → Nat → List UInt8} (h : StoP w o r n S W o1 w1) (hb : Below w1.heap.size w1 w2) : StoP w o r n S W o1 w2 := ⟨h.at_.ext hb, h.own, h.turned.then_below hb⟩
theorem StoP.from_ {w w1 w2 : World} {o o2 : Nat → Option Nat} {r n S : Nat} {W : Nat → Nat → List UInt8} (hb : Below w.heap.size w w1) (h : StoP w1 o r n S W o2 w2) : StoP w o r n S W o2 w2 :=
  ⟨h.at_, fun b hl => h.own b (Nat.lt_of_lt_of_le hl hb.size), (Turned.of_below hb).trans h.turned fun _ _ ho => ho⟩
theorem StoP.same {w w1 : World} {o o1 : Nat → Option Nat} {r n S : Nat} {W W' : Nat → Nat → List UInt8} (h : StoP w o r n S W o1 w1) (he : ∀ j t, j < n → W j t = W' j t) : StoP w o r n S W' o1 w1 := ⟨h.at_.same he, h.own, h.turned⟩
/-- a walk's own turns -/
theorem StoP.turn {w w1 w2 : World} {o o1 : Nat → Option Nat} {Q : Nat → Prop} {r n S : Nat} {W : Nat → Nat → List UInt8} (h : StoP w o r n S W o1 w1) (ht : Turned Q w1 w2) (hd : ∀ i, i < w1.heap.size → o1 i ≠ none → ¬ Q i) (hq : ∀ i, Q i → w.heap.size ≤ i) : StoP w o r n S W o1 w2 :=
  ⟨h.at_.turned ht hd, h.own, h.turned.trans ht fun i hi hx => by have := hq i hx; omega⟩
theorem StoP.bk {w w' : World} {o o' : Nat → Option Nat} {r n S : Nat} {W : Nat → Nat → List UInt8} (h : StoP w o r n S W o' w') {g : Nat} {t : TypeId} {cs : Array Value} (hk : Bk w g t cs) (hg : o g = none) : Bk w' g t cs := hk.turned h.turned fun hx => hx hg
theorem StoP.no {w w' : World} {o o' : Nat → Option Nat} {r n S : Nat} {W : Nat → Nat → List UInt8} (h : StoP w o r n S W o' w') {g : Nat} (hl : g < w.heap.size) (hg : o g = none) : o' g = none := (h.own g hl).trans hg
theorem StoP.ints {w w' : World} {o o' : Nat → Option Nat} {r n S : Nat} {W : Nat → Nat → List UInt8} (h : StoP w o r n S W o' w') {B : Nat} {v : Value} {l : List Int} (hk : OwnI w B v l) (hg : ∀ g, v.ownBlock = some g → o g = none) : OwnI w' B v l := hk.turned h.turned fun g e hx => hx (hg g e)
theorem StoP.of_rk {w w' : World} {o : Nat → Option Nat} {r n S : Nat} {M' : RackM} {W : Nat → Nat → List UInt8} (h : RkPost w o r M' w') (hS : Sto M' n S W) : ∃ o', StoP w o r n S W o' w' := by
  obtain ⟨o1, a1, a2, a3⟩ := h
  exact ⟨o1, ⟨M', a1, hS⟩, a2, a3⟩
/-! ### the calls -/
theorem stoWrite {w : World} {o : Nat → Option Nat} {r n S : Nat} {W : Nat → Nat → List UInt8} (h : StoAt w o r n S W) {i s : Nat} (hi : i < n) (hs : s < S) {g : Nat} {l : List UInt8} (hl : l.length = 128) (hr : RdB w (some ⟨g, 0, none⟩) 128 128 l) (hg : o g = none) :
    Calls Tryz.prog 95 #[.pointer (some ⟨r, 0, none⟩), .int .i64 i, .int .i64 s, .slice (some ⟨g, 0, none⟩) 128 128] w fun e w' => e = .returned .nilIface ∧ ∃ o', StoP w o r n S (putS W i s l) o' w' := by
  obtain ⟨M, h1, h2⟩ := h
  obtain ⟨M', h3, h4⟩ := h2.write hi hs hl
  refine (rackWrite_any h1 (i : Int) (s : Int) _ 128 128 l hr (fun ad e => by injection e with e; rw [← e]; exact hg) h3).mono ?_
  rintro e w' ⟨v, rfl, hv, hp⟩
  obtain rfl := hv.of_nil
  exact ⟨rfl, StoP.of_rk hp h4⟩
theorem stoFlush {w : World} {o : Nat → Option Nat} {r n S : Nat} {W : Nat → Nat → List UInt8} (h : StoAt w o r n S W) {i : Nat} (hi : i < n) :
    Calls Tryz.prog 96 #[.pointer (some ⟨r, 0, none⟩), .int .i64 i] w fun e w' => e = .returned .nilIface ∧ ∃ o', StoP w o r n S W o' w' := by
  obtain ⟨M, h1, h2⟩ := h
  obtain ⟨M', h3, h4⟩ := h2.flush hi
  refine (rackFlush_any h1 (i : Int) h3).mono ?_
  rintro e w' ⟨v, rfl, hv, hp⟩
  obtain rfl := hv.of_nil
  exact ⟨rfl, StoP.of_rk hp h4⟩
theorem stoGet {w : World} {o : Nat → Option Nat} {r n S : Nat} {W : Nat → Nat → List UInt8} (h : StoAt w o r n S W) {i s : Nat} (hi : i < n) (hs : s < S) (kind slot stripe : Int) {f : Frm} (hf : ofs (W i s) kind slot stripe = some f) :
    Calls Tryz.prog 178 #[.pointer (some ⟨r, 0, none⟩), .int .i64 i, .int .i64 s, .int .i64 kind, .int .i64 slot, .int .i64 stripe] w fun e w' => e = .returned (.tuple #[.agg f.cells, .bool true]) ∧ Below w.heap.size w w' := by
  obtain ⟨M, h1, h2⟩ := h
  have h3 := rackGet_any h1 (i : Int) (s : Int) kind slot stripe
  rw [h2.get hi hs, hf] at h3
  exact h3
def upto (n : Nat) : List Int := (List.range n).map fun (d : Nat) => (d : Int)
theorem upto_len (n : Nat) : (upto n).length = n := by simp [upto]
theorem stoOnline {w : World} {o : Nat → Option Nat} {r n S : Nat} {W : Nat → Nat → List UInt8} (h : StoAt w o r n S W) :
    Calls Tryz.prog 48 #[.pointer (some ⟨r, 0, none⟩)] w fun e w' => ∃ v, e = .returned v ∧ OwnI w' w.heap.size v (upto n) ∧ Below w.heap.size w w' := by
  obtain ⟨M, h1, h2⟩ := h
  have h3 := rackOnline_any h1
  have h4 : onlineI M = upto n := by
    unfold onlineI upto
    rw [h2.good.online, h2.nE]
  rw [h4] at h3
  exact h3
theorem stoN {w : World} {o : Nat → Option Nat} {r n S : Nat} {W : Nat → Nat → List UInt8} (h : StoAt w o r n S W) :
    Calls Tryz.prog 92 #[.pointer (some ⟨r, 0, none⟩)] w fun e w' => e = .returned (.int .i64 n) ∧ w' = w := by
  obtain ⟨M, h1, h2⟩ := h
  have h3 := rackN_any h1
  rw [h2.nE] at h3
  exact h3
theorem stoOff {w : World} {o : Nat → Option Nat} {r n S : Nat} {W : Nat → Nat → List UInt8} (h : StoAt w o r n S W) :
    Calls Tryz.prog 47 #[.pointer (some ⟨r, 0, none⟩)] w fun e w' => e = .returned (.bool false) ∧ w' = w := by
  obtain ⟨M, h1, h2⟩ := h
  have h3 := rackOff_any h1
  rw [h2.good.off] at h3
  exact h3
/-- a configuration of such a rack -/
structure CfgM.At (c : CfgM) (n S : Nat) : Prop where
  right : c.right = true
  nE : c.n = (n : Int)
  secE : c.sectors ≤ (S : Int)
theorem CfgM.At.fits {c : CfgM} {n S : Nat} {W : Nat → Nat → List UInt8} {M : RackM} (h : c.At n S) (hS : Sto M n S W) : c.fits M = true := by
  unfold CfgM.fits
  rw [h.right, decide_eq_true (by rw [hS.nE]; exact h.nE), decide_eq_true (by rw [hS.secE]; exact h.secE)]
  rfl
theorem stoFits {w : World} {o : Nat → Option Nat} {r n S : Nat} {W : Nat → Nat → List UInt8} (h : StoAt w o r n S W) {c : CfgM} (hc : c.At n S) :
    Calls Tryz.prog 51 #[.pointer (some ⟨r, 0, none⟩), .agg #[.int .i64 c.id, .int .i64 c.k, .int .i64 c.n, .int .i64 c.stripes, .int .i64 c.slots]] w fun e w' => e = .returned (.bool true) ∧ Below w.heap.size w w' := by
  obtain ⟨M, h1, h2⟩ := h
  exact superFits_yes h1 (hc.fits h2)
theorem stoSuper {w : World} {o : Nat → Option Nat} {r n S : Nat} {W : Nat → Nat → List UInt8} (h : StoAt w o r n S W) {c : CfgM} (hc : c.At n S) {i : Nat} (hi : i < n) :
    Calls Tryz.prog 99 #[.pointer (some ⟨r, 0, none⟩), .agg #[.int .i64 c.id, .int .i64 c.k, .int .i64 c.n, .int .i64 c.stripes, .int .i64 c.slots], .int .i64 i] w fun e w' => e = .returned .nilIface ∧ ∃ o', StoP w o r n S (putS W i 0 (putF (c.block i))) o' w' := by
  have hlt := h.lt
  obtain ⟨M, h1, h2⟩ := h
  have h5 : (putF (c.block i)).length = 128 := putF_len (block_len c i) (block_right c (by omega) (by omega))
  obtain ⟨M1, h3, h4⟩ := h2.write (s := 0) hi (by omega) h5
  obtain ⟨M2, h6, h7⟩ := h4.flush hi
  have hM : superPut M c i = (M2, 0) := by
    unfold superPut
    rw [if_neg (by rw [hc.fits h2]; simp)]
    have h3' : M.write (i : Int) 0 (putF (c.block i)) = (M1, 0) := h3
    rw [h3']
    dsimp only
    rw [if_neg (by simp), h6]
  refine (superPut_any h1 (hc.fits h2) (by omega) (by omega) hM).mono ?_
  rintro e w' ⟨v, rfl, hv, hp⟩
  obtain rfl := hv.of_nil
  exact ⟨rfl, StoP.of_rk hp h7⟩
theorem cfgOf_block {c : CfgM} (h : c.right = true) (i : Int) : cfgOf (c.block i) = c := by
  obtain ⟨a, k, n, s, l⟩ := c
  have hi := CfgM.right_in h
  have h1 := hi.id1
  have h2 := hi.id2
  have h3 := hi.n1
  have h4 := hi.n2
  have h5 := hi.k1
  have h6 := hi.k2
  have h7 := hi.s1
  have h8 := hi.s2
  have h9 := hi.l1
  have h10 := hi.l2
  dsimp only at h1 h2 h3 h4 h5 h6 h7 h8 h9 h10
  unfold cfgOf CfgM.block
  dsimp only
  have e0 : (leB 4 a.toNat ++ (UInt8.ofNat k.toNat :: UInt8.ofNat n.toNat :: UInt8.ofNat s.toNat :: UInt8.ofNat l.toNat :: rep 100 0)).take 4 = leB 4 a.toNat := by
    rw [List.take_append_of_le_length (by simp [leB_len]), List.take_of_length_le (by simp [leB_len])]
  have e1 : ∀ (j : Nat) (L : List UInt8), (leB 4 a.toNat ++ L)[4 + j]? = L[j]? := fun j L => by
    rw [List.getElem?_append_right (by simp [leB_len])]
    congr 1
    simp [leB_len]
  have w1 : ∀ z : Int, 0 ≤ z → z < 256 → w8 (UInt8.ofNat z.toNat) = z := fun z h h' => by
    show ((UInt8.ofNat z.toNat).toNat : Int) = z
    rw [UInt8.toNat_ofNat', Nat.mod_eq_of_lt (by omega)]
    omega
  rw [e0, leN_leB, Nat.mod_eq_of_lt (show a.toNat < 4294967296 by omega), e1 0, e1 1, e1 2, e1 3]
  simp only [List.getElem?_cons_zero, List.getElem?_cons_succ, Option.getD_some]
  rw [w1 k (by omega) (by omega), w1 n (by omega) (by omega), w1 s (by omega) (by omega), w1 l (by omega) (by omega)]
  congr 1
  omega
theorem stoSuperGet {w : World} {o : Nat → Option Nat} {r n S : Nat} {W : Nat → Nat → List UInt8} (h : StoAt w o r n S W) {c : CfgM} (hc : c.right = true) {i : Nat} (hi : i < n) (hW : W i 0 = putF (c.block i)) :
    Calls Tryz.prog 170 #[.pointer (some ⟨r, 0, none⟩), .int .i64 i] w fun e w' => e = .returned (.tuple #[.agg #[.int .i64 c.id, .int .i64 c.k, .int .i64 c.n, .int .i64 c.stripes, .int .i64 c.slots], .bool true]) ∧ Below w.heap.size w w' := by
  have hlt := h.lt
  obtain ⟨M, h1, h2⟩ := h
  have hg : M.get i 0 1 i 0 = some (c.block i) := by
    have := h2.get (s := 0) hi (by omega) 1 i 0
    rw [hW] at this
    exact this.trans (ofs_put (f := c.block i) (block_len c i) (block_right c (by omega) (by omega)) (.inr rfl))
  have h3 : superGet M i = some c := by
    unfold superGet
    rw [hg]
    dsimp only
    rw [cfgOf_block hc, if_pos ⟨hc, rfl⟩]
  have h4 := superGet_any h1 i (fun f hf => by
    rw [hg] at hf
    injection hf with hf
    rw [← hf, cfgOf_block hc]
    exact hc)
  rw [h3] at h4
  exact h4
end Go.Proofs.YtkdlofgfkfhofaaGreatDoor
