import Derived.Test.YtkdlofgfkfhofaaGreatDoorP14
import Derived.Test.YtkdlofgfkfhofaaGreatDoorP13
/-
  code: Decode.
-/
namespace Go.Proofs.YtkdlofgfkfhofaaGreatDoor
open Go.RowKit Go.Maps

attribute [local go_sem ↓] ldP_eq stP_eq
set_option maxRecDepth 100000 in
set_option maxHeartbeats 4000000 in
theorem decodeC_any {c k n : Nat} {w : World} (hCA : CodeAt w c k n) {B' m L : Nat} {v : Value} {vs : Nat → Value} {Ls : Nat → List UInt8} (hP : PartsAt w B' v vs m L Ls) (hk : 1 ≤ k) (hm : k ≤ m) (hn : m ≤ n) (h8 : n ≤ 8) (hL : L ≤ 1000) (hL1 : 1 ≤ L) :
    Calls Tryz.prog 217 #[.pointer (some ⟨c, 0, none⟩), v] w fun e w' => ∃ u, e = .returned (.tuple #[u, .nilIface]) ∧ (∃ us, RowsAt w' w.heap.size u us ((List.range k).map Ls)) ∧ Below w.heap.size w w' := by
  obtain ⟨B, f, cv, cvs, hC⟩ := hCA
  obtain ⟨A, cc, rfl, hcell⟩ := hP.open_
  obtain ⟨gp, rfl, _, hgp, _, p20⟩ := hcell 0 (by omega)
  obtain ⟨_, A0, c0, hv0, _⟩ := hP.row 0 (by omega)
  rw [hv0] at p20
  have hcell2 : ∀ i, i < m → w.cell? ⟨gp, i * 2, none⟩ = some (.int .i64 (i : Int)) ∧ w.cell? ⟨gp, i * 2 + 1, none⟩ = some (vs i) := fun i hi => by
    obtain ⟨g', e, _, _, h1, h2⟩ := hcell i hi
    injection e with e
    injection e with e
    rw [e, Nat.mul_comm]
    exact ⟨h1, h2⟩
  obtain ⟨Ac, ccc, hcv, _⟩ := hC.rows.open_
  have hln : ((List.range n).map (rowC k)).length = n := by simp
  rw [hln] at hcv
  subst hcv
  have HC := Lib.hid hC
  have HP := Lib.hid hP
  have HCell := Lib.hid hcell2
  clear hcell hcell2 hC hP hv0 hln
  go_enter Tryz.func217, Tryz.ntmps217
  go_wp2_with fail
  go_loopw [11] (fun i wr => ∃ j : Nat, j ≤ m ∧ i = .int .i64 j ∧ Hid (Below w.heap.size w wr)) (fun i _ => m - (intOf i).toNat)
  case atStart => exact ⟨0, Nat.zero_le _, rfl, Below.refl _ _⟩
  case round =>
    obtain ⟨j, hj, rfl, hB⟩ := hrel
    by_cases hlt : j < m
    · have hi : (j : Int) < m := by omega
      obtain ⟨p1, p2⟩ := HCell.out j hlt
      obtain ⟨_, Aj, cj, hvj, _⟩ := HP.out.row j hlt
      rw [hvj] at p2
      have p1r : wr.cell? ⟨gp, j * 2, none⟩ = some (.int .i64 (j : Int)) := (hB.out.cell (p := ⟨gp, j * 2, none⟩) hgp).trans p1
      have p2r : wr.cell? ⟨gp, j * 2 + 1, none⟩ = some (.slice Aj L cj) := (hB.out.cell (p := ⟨gp, j * 2 + 1, none⟩) hgp).trans p2
      have hld := ldP_at p1r p2r
      have hst := stP_new wr (.int .i64 0) (.slice none 0 0) (.int .i64 (j : Int)) (.slice Aj L cj) rfl rfl
      go_upto_region 4 with fail
      have hbn := below_new wr (.cells #[.int .i64 (j : Int), .slice Aj L cj] 408)
      have hkn := Bk.made wr 408 #[.int .i64 (j : Int), .slice Aj L cj]
      obtain ⟨pb, hpb⟩ : ∃ pb, pb = wr.heap.size := ⟨_, rfl⟩
      rw [← hpb] at hkn ⊢
      generalize wr.alloc (.cells #[.int .i64 (j : Int), .slice Aj L cj] 408) = W at hbn hkn ⊢
      have hBW := hB.out.trans (below_le hB.out.size hbn)
      have e0 : ∀ q, (W.drewN q).cell? ⟨pb, 0, none⟩ = some (.int .i64 (j : Int)) := fun _ => hkn.cell 0
      have e1 : ∀ q, (W.drewN q).cell? ⟨pb, 1, none⟩ = some (.slice Aj L cj) := fun _ => hkn.cell 1
      have e2 : ∀ q, (W.drewN q).cell? ⟨c, 2, none⟩ = some (.slice Ac n ccc) := fun _ => (HC.out.ext hBW).bk.cell 2
      have e3 : ∀ q, (W.drewN q).cell? ⟨gp, 1, none⟩ = some (.slice A0 L c0) := fun _ => (hBW.cell (p := ⟨gp, 1, none⟩) hgp).trans p20
      have HBW := Lib.hid hBW
      have hjn : ¬ (n : Int) ≤ (j : Int) := by omega
      have hjn2 : decide ((n : Int) ≤ (j : Int)) = false := decide_eq_false hjn
      have hjn3 : ¬ n ≤ j := by omega
      have hm0 : (0 : Int) < m := by omega
      have hm1 : 0 < m := by omega
      have hm2 : ¬ (m : Int) ≤ 0 := by omega
      have hj0 : decide ((j : Int) < 0) = false := decide_eq_false (by omega)
      clear hbn hkn hBW hld hst p1r p2r p1 p2 hvj hpb hjn
      go_quiet (fail)
      go_wp2_with fail
      exact ⟨⟨j + 1, by omega, by go_num, below_drawn HBW.out nq⟩, by simp [intOf]; omega⟩
    · have hj1 : j = m := by omega
      have hi : ¬ (j : Int) < m := by omega
      clear hj1
      have hCr := HC.out.ext hB.out
      have HCh := Lib.hid (chosen_any hCr (HP.out.ext hB.out) hk hm (by omega))
      have hq : ¬ (k : Int) < k := by omega
      have hCr0 := Lib.hid hCr
      clear hCr
      go_wp2_with (first | (go_at_call 255; (with_reducible refine HCh.out.mono ?_); rintro er w4 ⟨u4, rfl, hp4, hb4⟩; obtain ⟨A4, c4, rfl, -⟩ := hp4.open_; have hC4 := hCr0.out.ext hb4; have k0 : w4.cell? ⟨c, 0, none⟩ = some (.int .i64 (k : Int)) := hC4.bk.cell 0; have HSv := Lib.hid (solve_any hC4 hp4 hk (by omega) h8 hL hL1); have HB4 := Lib.hid (hB.out.trans (below_le hB.out.size hb4)); clear hC4 hp4 hb4) | (go_at_call 256; (with_reducible refine HSv.out.mono ?_); rintro er w5 ⟨u5, rfl, ⟨us, hu5⟩, hb5⟩; have HU5 := Lib.hid hu5; have HB5 := Lib.hid hb5; clear hu5 hb5) | fail)
      go_ret2
      exact ⟨_, rfl, ⟨us, HU5.out.more HB4.out.size⟩, HB4.out.trans (below_le HB4.out.size HB5.out)⟩
end Go.Proofs.YtkdlofgfkfhofaaGreatDoor

/-
  stripe: Look, on a good rack whose sectors have a stripe's frames.
-/
namespace Go.Proofs.YtkdlofgfkfhofaaGreatDoor
open Go.RowKit Go.Maps

/-- parts that are frames' data -/
structure PartsB (w : World) (B m : Nat) (v : Value) (vs : Nat → Value) (F : Nat → Frm) : Prop where
  own : w.ownsRow B 408 2 v m (prtC vs m)
  row : ∀ i, i < m → ∃ g, vs i = .slice (some ⟨g, 4, none⟩) 108 108 ∧ (F i).data.length = 108 ∧ Bk w g 273 (F i).cells
theorem PartsB.nil (w : World) (B : Nat) (vs : Nat → Value) (F : Nat → Frm) : PartsB w B 0 (.slice none 0 0) vs F := ⟨World.ownsRow_nil _ _ _ _, fun i h => absurd h (by omega)⟩
theorem PartsB.ext {w w' : World} {B m : Nat} {v : Value} {vs : Nat → Value} {F : Nat → Frm} (h : PartsB w B m v vs F) (hb : Below w.heap.size w w') : PartsB w' B m v vs F :=
  ⟨own_turned (P := fun _ => False) h.own (Turned.of_below hb) (fun _ _ => id), fun i hi => by
    obtain ⟨g, h1, h2, h3⟩ := h.row i hi
    exact ⟨g, h1, h2, h3.ext hb⟩⟩
theorem PartsB.snoc {w w5 : World} {B m g : Nat} {v v5 : Value} {vs : Nat → Value} {F : Nat → Frm} (h : PartsB w B m v vs F) (hg : w.grownBy w5 v.ownBlock) (ho : w5.ownsRow B 408 2 v5 (m + 1) (prtC vs m ++ [.int .i64 (m : Int), .slice (some ⟨g, 4, none⟩) 108 108])) (hl : (F m).data.length = 108) (hu : Bk w g 273 (F m).cells) :
    PartsB w5 B (m + 1) v5 (snocV vs m (.slice (some ⟨g, 4, none⟩) 108 108)) F := by
  have key : ∀ {g : Nat} {cs : Array Value}, Bk w g 273 cs → Bk w5 g 273 cs := fun {g cs} hk => hk.grown hg fun e => own_notB h.own e.symm hk rfl (by decide)
  refine ⟨?_, fun i hi => ?_⟩
  · have e : prtC (snocV vs m (.slice (some ⟨g, 4, none⟩) 108 108)) m = prtC vs m := by
      unfold prtC
      have : ∀ i ∈ List.range m, snocV vs m (.slice (some ⟨g, 4, none⟩) 108 108) i = vs i := fun i hi => if_neg (by have := List.mem_range.1 hi; omega)
      rw [List.flatMap_def, List.flatMap_def]
      congr 1
      exact List.map_congr_left fun i hi => by rw [this i hi]
    rw [prtC_succ, e, snocV, if_pos rfl]
    exact ho
  · unfold snocV
    by_cases e : i = m
    · subst e
      rw [if_pos rfl]
      exact ⟨g, rfl, hl, key hu⟩
    · rw [if_neg e]
      obtain ⟨g', h1, h2, h3⟩ := h.row i (by omega)
      exact ⟨g', h1, h2, key h3⟩
theorem PartsB.rd {w : World} {B m : Nat} {v : Value} {vs : Nat → Value} {F : Nat → Frm} (h : PartsB w B m v vs F) : PartsAt w B v vs m 108 fun i => (F i).data := ⟨h.own, fun i hi => by
  obtain ⟨g, h1, h2, h3⟩ := h.row i hi
  exact ⟨h2, _, 108, h1, Frm.reads h3 h2⟩⟩
attribute [local go_sem ↓] ldCf_eq ldFr_eq stFr_eq
set_option maxRecDepth 100000 in
set_option maxHeartbeats 4000000 in
theorem sLook_any {w : World} {o : Nat → Option Nat} {r n S : Nat} {W : Nat → Nat → List UInt8} (h : StoAt w o r n S W) {c : CfgM} (hc : c.At n S) {s gen sec : Nat} (hs : (s : Int) < c.stripes) (hsc : sectorS c s = (sec : Int)) {F : Nat → Frm} (hFl : ∀ d, (F d).data.length = 108) (hFr : ∀ d, d < n → (F d).right = true) (hF : ∀ d, d < n → (F d).kind = 3 ∧ (F d).slot = d ∧ (F d).stripe = s ∧ (F d).gen = gen) (hg : 1 ≤ gen) (hW : ∀ d, d < n → W d sec = putF (F d)) :
    Calls Tryz.prog 216 #[.pointer (some ⟨r, 0, none⟩), .agg #[.int .i64 c.id, .int .i64 c.k, .int .i64 c.n, .int .i64 c.stripes, .int .i64 c.slots], .int .i64 s] w fun e w' => ∃ v, e = .returned (.tuple #[.int .i64 gen, v]) ∧ (∃ vs, PartsB w' w.heap.size n v vs F) ∧ Below w.heap.size w w' := by
  have hin := CfgM.right_in hc.right
  have hn8 := h.lt
  have hsS : sec < S := by
    have h2 := hc.secE
    unfold CfgM.sectors at h2
    unfold sectorS at hsc
    omega
  have HKn := Lib.hid (fun v => fun hv : Below w.heap.size w v => sKnown_any (h.ext hv) hc hs)
  have HSec : Hid (∀ v, Calls Tryz.prog 148 #[.agg #[.int .i64 c.id, .int .i64 c.k, .int .i64 c.n, .int .i64 c.stripes, .int .i64 c.slots], .int .i64 s] v fun e w' => e = .returned (.int .i64 sec) ∧ Below v.heap.size v w') := fun v => by
    have h := sSector_any hin hs v
    rw [hsc] at h
    exact h
  have HGe : Hid (∀ v, Below w.heap.size w v → ∀ d : Nat, d < n → Calls Tryz.prog 178 #[.pointer (some ⟨r, 0, none⟩), .int .i64 d, .int .i64 sec, .int .i64 3, .int .i64 d, .int .i64 s] v fun e w' => e = .returned (.tuple #[.agg (F d).cells, .bool true]) ∧ Below v.heap.size v w') := fun v hv d hd => by
    refine stoGet (h.ext hv) hd hsS 3 d s (f := F d) ?_
    rw [hW d hd]
    have h5 := ofs_put (hFl d) (hFr d hd) (st := s) (.inr (hF d hd).2.2.1)
    rw [(hF d hd).1, (hF d hd).2.1] at h5
    exact h5
  have hk0 := Bk.made w 25 #[.int .i64 c.id, .int .i64 c.k, .int .i64 c.n, .int .i64 c.stripes, .int .i64 c.slots]
  have hb0 := below_new w (.cells #[.int .i64 c.id, .int .i64 c.k, .int .i64 c.n, .int .i64 c.stripes, .int .i64 c.slots] 25)
  have HB0 := Lib.hid hb0
  have HC0 := Lib.hid hk0
  have hld0 := ldCf_bk hk0
  have HGen : Hid (∀ d, d < n → (F d).gen = gen) := fun d hd => (hF d hd).2.2.2
  have HFl := Lib.hid hFl
  have HN := Lib.hid hc.nE
  obtain ⟨ii, hi0, hz0, hs0, hy0⟩ := info_parts info_prt
  have HI := Lib.hid hi0
  have HZ := Lib.hid hz0
  have HSz := Lib.hid hs0
  have HY := Lib.hid hy0
  have hz := zero_frm
  clear hi0 hz0 hs0 hy0 hk0 hb0 hin hsc hs hc h hFl hFr hF hW hsS
  go_enter Tryz.func216, Tryz.ntmps216
  go_wp2_with fail
  with_reducible refine (HKn.out _ HB0.out).mono ?_
  rintro er w1 ⟨rfl, hb1⟩
  have HB1 := Lib.hid (HB0.out.trans (below_le HB0.out.size hb1))
  have HC1 := Lib.hid (HC0.out.ext hb1)
  have cn : w1.cell? ⟨w.heap.size, 2, none⟩ = some (.int .i64 c.n) := HC1.out.cell 2
  clear hb1 hld0 HB0 HC0
  go_wp2_with fail
  clear cn
  go_loopw [8, 9, 20] (fun ge v i wr => ∃ (j : Nat) (vs : Nat → Value) (G : Nat), j ≤ n ∧ i = .int .i64 j ∧ ge = .int .i64 G ∧ Hid (G = if j = 0 then 0 else gen) ∧ Hid (PartsB wr w.heap.size j v vs F) ∧ Hid (Bk wr w.heap.size 25 #[.int .i64 c.id, .int .i64 c.k, .int .i64 c.n, .int .i64 c.stripes, .int .i64 c.slots]) ∧ Hid (Below w.heap.size w wr)) (fun _ _ i _ => n - (intOf i).toNat)
  case atStart => exact ⟨0, fun _ => .nilIface, 0, Nat.zero_le _, rfl, rfl, rfl, PartsB.nil _ _ _ _, HC1, HB1⟩
  case round =>
    obtain ⟨j, vs, G, hj, rfl, rfl, hG, hV, hC, hB⟩ := hrel
    clear HC1 HB1
    obtain ⟨A9, c9, hA9⟩ := own_open hV.out.own
    subst hA9
    by_cases hlt : j < n
    · have hi : (j : Int) < c.n := by rw [HN.out]; omega
      have hld := ldCf_bk hC.out
      have hSx := HSec.out wr
      go_wp2_with fail
      with_reducible refine hSx.mono ?_
      rintro er w1 ⟨rfl, hb1⟩
      have HB2 := Lib.hid (hB.out.trans (below_le hB.out.size hb1))
      have HC2 := Lib.hid (hC.out.ext hb1)
      have HV2 := Lib.hid (hV.out.ext hb1)
      clear hSx hld hV hC hB hb1
      go_wp2_with fail
      with_reducible refine (HGe.out _ HB2.out j hlt).mono ?_
      rintro er w2 ⟨rfl, hb2⟩
      obtain ⟨f, hf⟩ : ∃ f, F j = f := ⟨_, rfl⟩
      have hfl : f.data.length = 108 := by rw [← hf]; exact HFl.out j
      have hfg : f.gen = gen := by rw [← hf]; exact HGen.out j hlt
      have HF := Lib.hid hf
      rw [hf]
      have hst := stFr_new w2 zeroF f blank_len hfl
      have hb3 := below_new w2 (.cells f.cells 273)
      have hk3 := Bk.made w2 273 f.cells
      have HB3 := Lib.hid ((HB2.out.trans (below_le HB2.out.size hb2)).trans (below_le (Nat.le_trans HB2.out.size hb2.size) hb3))
      have HC3 := Lib.hid ((HC2.out.ext hb2).ext hb3)
      have HV3 := Lib.hid ((HV2.out.ext hb2).ext hb3)
      obtain ⟨w3, hw3⟩ : ∃ w3, w2.alloc (.cells f.cells 273) = w3 := ⟨_, rfl⟩
      rw [hw3] at hst hk3 HB3 HC3 HV3
      have f3 : w3.cell? ⟨w2.heap.size, 3, none⟩ = some (.int .i64 gen) := (hk3.cell 3).trans (by rw [← hfg]; rfl)
      have HK3 := Lib.hid hk3
      have HFl1 := Lib.hid hfl
      have hge0 : ((gen : Int) == 0) = false := by simp; omega
      clear hf hb2 hb3 hw3 HB2 HC2 HV2 hk3 hfg hfl
      by_cases hj0 : j = 0
      · subst hj0
        obtain rfl : G = 0 := hG.out
        have hb4 := below_new w3 (.cells #[.int .i64 (0 : Int), .slice (some ⟨w2.heap.size, 4, none⟩) 108 108] 408)
        have HB4 := Lib.hid (HB3.out.trans (below_le HB3.out.size hb4))
        have HC4 := Lib.hid (HC3.out.ext hb4)
        have HK4 := Lib.hid (HK3.out.ext hb4)
        have HV4 := Lib.hid (PartsB.nil (w3.alloc (.cells #[.int .i64 (0 : Int), .slice (some ⟨w2.heap.size, 4, none⟩) 108 108] 408)) w.heap.size vs F)
        have hge1 : ¬ (gen : Int) < 0 := by omega
        have hge2 : (0 : Int) < gen := by omega
        clear hb4 HV3
        go_wp2_with (first | (at_builtin; go_loud (refine wpList_append_gen rfl (.tmp 53) (.tmp 58) 364 rfl 408 ii _ 2 32 Tryz.underlying364 HI.out HZ.out HSz.out HY.out rfl (by omega) w.heap.size w _ 0 _ rfl HV4.out.own ⟨w3.heap.size, 0, none⟩ 1 1 [.int .i64 (0 : Int), .slice (some ⟨w2.heap.size, 4, none⟩) 108 108] rfl rfl (cell_new2 _ _ _ _) (fun u hu => by rw [List.mem_cons, List.mem_singleton] at hu; rcases hu with rfl | rfl <;> rfl) (by unfold maxLen; omega) (by omega) HB4.out HB4.out.size ?_); intro A5 c5 w5 ho5 hg5 hob5 hb5 hs5) | fail)
        have hC5 := HC4.out.grown hg5.out (fun e => by cases e)
        exact ⟨⟨1, _, gen, by omega, rfl, rfl, rfl, HV4.out.snoc hg5.out ho5.out (by rw [HF.out]; exact HFl1.out) (by rw [HF.out]; exact HK4.out), hC5, hb5⟩, by simp [intOf]; omega⟩
      · have hb4 := below_new w3 (.cells #[.int .i64 (j : Int), .slice (some ⟨w2.heap.size, 4, none⟩) 108 108] 408)
        have HB4 := Lib.hid (HB3.out.trans (below_le HB3.out.size hb4))
        have HC4 := Lib.hid (HC3.out.ext hb4)
        have HK4 := Lib.hid (HK3.out.ext hb4)
        have HV4 := Lib.hid (HV3.out.ext hb4)
        have hge1 : ¬ (gen : Int) < gen := by omega
        clear hb4 HV3
        obtain rfl : G = gen := by have := hG.out; rw [if_neg hj0] at this; exact this
        go_wp2_with (first | (at_builtin; go_loud (refine wpList_append_gen rfl (.tmp 53) (.tmp 58) 364 rfl 408 ii _ 2 32 Tryz.underlying364 HI.out HZ.out HSz.out HY.out rfl (by omega) w.heap.size w _ j _ rfl HV4.out.own ⟨w3.heap.size, 0, none⟩ 1 1 [.int .i64 (j : Int), .slice (some ⟨w2.heap.size, 4, none⟩) 108 108] rfl rfl (cell_new2 _ _ _ _) (fun u hu => by rw [List.mem_cons, List.mem_singleton] at hu; rcases hu with rfl | rfl <;> rfl) (by unfold maxLen; omega) (by omega) HB4.out HB4.out.size ?_); intro A5 c5 w5 ho5 hg5 hob5 hb5 hs5) | fail)
        have hC5 := HC4.out.grown hg5.out (fun e => own_notB HV4.out.own e.symm HC4.out rfl (by decide))
        exact ⟨⟨j + 1, _, G, by omega, by go_num, rfl, by show _ = _; rw [if_neg (by omega)], HV4.out.snoc hg5.out ho5.out (by rw [HF.out]; exact HFl1.out) (by rw [HF.out]; exact HK4.out), hC5, hb5⟩, by simp [intOf]; omega⟩
    · have hjn : j = n := by omega
      subst hjn
      have hi : ¬ (j : Int) < c.n := by rw [HN.out]; omega
      obtain rfl : G = gen := by have := hG.out; rw [if_neg (by omega)] at this; exact this
      go_wp2_with fail
      go_ret2
      exact ⟨_, rfl, ⟨vs, hV.out⟩, hB.out⟩
end Go.Proofs.YtkdlofgfkfhofaaGreatDoor

/-
  stripe: Get, on a good rack whose sectors have a stripe's frames.
-/
namespace Go.Proofs.YtkdlofgfkfhofaaGreatDoor
open Go.RowKit Go.Maps

/-- an own slice of blocks -/
def OwnKs (w : World) (B : Nat) (v : Value) (L : List (List UInt8)) : Prop := w.ownsRow B 315 108 v L.length (L.flatMap bvs)
theorem OwnKs.rd {w : World} {B : Nat} {v : Value} {L : List (List UInt8)} (h : OwnKs w B v L) (hl : ∀ l ∈ L, l.length = 108) : ∃ A c, v = .slice A L.length c ∧ BlkRd w A L := by
  rcases h.2 with ⟨h1, h2⟩ | ⟨g, cap, cur, h1, h2, h3, h4, h5, h6, h7⟩
  · refine ⟨none, 0, by rw [h1, h2], hl, fun k f hk => ?_⟩
    have := (List.getElem?_eq_some_iff.1 hk).1
    omega
  · refine ⟨_, cap, h1, hl, fun k f hk => ⟨g, rfl, (Array.getElem?_eq_some_iff.1 h3).1, fun j hj => ?_⟩⟩
    have hkl := (List.getElem?_eq_some_iff.1 hk).1
    have hb : Bk w g 315 cur := h3
    have hm : (k + 1) * 108 ≤ L.length * 108 := Nat.mul_le_mul_right 108 hkl
    rw [Nat.add_one_mul] at hm
    rw [hb.cell (k * 108 + j)]
    have h8 := congrArg (fun x => x[k * 108 + j]?) h7
    replace h8 : (List.take (L.length * 108) cur.toList)[k * 108 + j]? = (L.flatMap bvs)[k * 108 + j]? := h8
    rw [List.getElem?_take, if_pos (by omega), flat_getM bvs 108 L (fun x hx => by rw [bvs_len, hl x hx]) k j f hk hj] at h8
    rw [← Array.getElem?_toList, h8]
attribute [local go_sem ↓] ldCf_eq ldK_eq bsK_eq
set_option maxRecDepth 100000 in
set_option maxHeartbeats 4000000 in
theorem sGet_any {w : World} {o : Nat → Option Nat} {r n S : Nat} {W : Nat → Nat → List UInt8} (h : StoAt w o r n S W) {c : CfgM} (hc : c.At n S) {k s gen sec : Nat} (hk : c.k = (k : Int)) (hs : (s : Int) < c.stripes) (hsc : sectorS c s = (sec : Int)) {F : Nat → Frm} (hFl : ∀ d, (F d).data.length = 108) (hFr : ∀ d, d < n → (F d).right = true) (hF : ∀ d, d < n → (F d).kind = 3 ∧ (F d).slot = d ∧ (F d).stripe = s ∧ (F d).gen = gen) (hg : 1 ≤ gen) (hW : ∀ d, d < n → W d sec = putF (F d)) :
    Calls Tryz.prog 177 #[.pointer (some ⟨r, 0, none⟩), .agg #[.int .i64 c.id, .int .i64 c.k, .int .i64 c.n, .int .i64 c.stripes, .int .i64 c.slots], .int .i64 s] w fun e w' => ∃ v, e = .returned (.tuple #[v, .int .i64 gen, .nilIface]) ∧ OwnKs w' w.heap.size v ((List.range k).map fun d => (F d).data) ∧ Below w.heap.size w w' := by
  have hin := CfgM.right_in hc.right
  have hn8 := h.lt
  have hk1 : 1 ≤ k := by have := hin.k1; omega
  have hkn : k ≤ n := by have := hin.k2; have := hc.nE; omega
  have HKn := Lib.hid (fun v => fun hv : Below w.heap.size w v => sKnown_any (h.ext hv) hc hs)
  have HOff := Lib.hid (fun v => fun hv : Below w.heap.size w v => stoOff (h.ext hv))
  have HOn := Lib.hid (fun v => fun hv : Below w.heap.size w v => stoOnline (h.ext hv))
  have HLk := Lib.hid (fun v => fun hv : Below w.heap.size w v => sLook_any (h.ext hv) hc hs hsc hFl hFr hF hg hW)
  have HNw : Hid (∀ v, Calls Tryz.prog 189 #[.int .i64 c.k, .int .i64 c.n] v fun e w' => ∃ x, e = .returned (.tuple #[.pointer (some ⟨x, 0, none⟩), .nilIface]) ∧ CodeAt w' x k n ∧ Below v.heap.size v w') := by
    rw [hk, hc.nE]
    exact codeNew_any k n hk1 hkn hn8.2.1
  have HK := Lib.hid hk
  have HN := Lib.hid hc.nE
  have HFl := Lib.hid hFl
  have hk0 := Bk.made w 25 #[.int .i64 c.id, .int .i64 c.k, .int .i64 c.n, .int .i64 c.stripes, .int .i64 c.slots]
  have hb0 := below_new w (.cells #[.int .i64 c.id, .int .i64 c.k, .int .i64 c.n, .int .i64 c.stripes, .int .i64 c.slots] 25)
  have HB0 := Lib.hid hb0
  have HC0 := Lib.hid hk0
  have hld0 := ldCf_bk hk0
  obtain ⟨ii, hi0, hz0, hs0, hy0⟩ := info_parts info_blk
  have HI := Lib.hid hi0
  have HZ := Lib.hid hz0
  have HSz := Lib.hid hs0
  have HY := Lib.hid hy0
  clear hi0 hz0 hs0 hy0 hk0 hb0 hin hsc hs hc h hFl hFr hF hW hk
  go_enter Tryz.func177, Tryz.ntmps177
  go_wp2_with fail
  with_reducible refine (HKn.out _ HB0.out).mono ?_
  rintro er w1 ⟨rfl, hb1⟩
  have HB1 := Lib.hid (HB0.out.trans (below_le HB0.out.size hb1))
  have HC1 := Lib.hid (HC0.out.ext hb1)
  clear hb1 hld0 HB0 HC0
  have hOff := HOff.out w1 HB1.out
  go_wp2_with fail
  clear hOff
  have FS : Hid (∀ v, Below w1.heap.size w1 v → v.cell? ⟨w.heap.size, 1, none⟩ = some (.int .i64 c.k)) := fun v hv => (HC1.out.ext hv).cell 1
  have B0 : Hid (Below w1.heap.size w1 w1.drew) := below_drew1 (Below.refl _ _)
  have hnk : ¬ (n : Int) < c.k := by rw [HK.out]; omega
  go_region_held3 (fun v => v.cell? ⟨w.heap.size, 1, none⟩ = some (.int .i64 c.k)) (first | exact FS.out _ B0.out | exact FS.out _ B5.out | fail) (first | (go_at_call 47; go_loud ((with_reducible refine (HOff.out _ (HB1.out.trans (below_le HB1.out.size B0.out))).mono ?_); rintro er w4 ⟨rfl, rfl⟩)) | (go_at_call 48; go_loud ((with_reducible refine (HOn.out _ (HB1.out.trans (below_le HB1.out.size B0.out))).mono ?_); rintro er w5 ⟨v5, rfl, hv5, hb5⟩; have B5 := Lib.hid (B0.out.trans (below_le B0.out.size hb5)); obtain ⟨A5, cp5, hA5, hcl5⟩ := hv5.open_; rw [upto_len] at hA5; subst hA5; clear hcl5 hv5 hb5)) | fail)
  have hC5 := HC1.out.ext B5.out
  have HB5 := Lib.hid (HB1.out.trans (below_le HB1.out.size B5.out))
  have HC5 := Lib.hid hC5
  have hld5 := ldCf_bk hC5
  have hd0 : decide ((n : Int) < c.k) = false := decide_eq_false (by omega)
  clear hC5 B0 B5 FS HB1 HC1 HOff HOn HKn
  go_wp2_with fail
  with_reducible refine (HLk.out _ HB5.out).mono ?_
  rintro er w6 ⟨v6, rfl, ⟨vs, hp6⟩, hb6⟩
  have HB6 := Lib.hid (HB5.out.trans (below_le HB5.out.size hb6))
  have HC6 := Lib.hid (HC5.out.ext hb6)
  have ck : w6.cell? ⟨w.heap.size, 1, none⟩ = some (.int .i64 c.k) := HC6.out.cell 1
  have cn : w6.cell? ⟨w.heap.size, 2, none⟩ = some (.int .i64 c.n) := HC6.out.cell 2
  have HP6 := Lib.hid hp6.rd
  obtain ⟨A6, c6, hA6⟩ := own_open hp6.own
  subst hA6
  clear hb6 hp6 hld5 HB5 HC5 HLk
  go_wp2_with fail
  with_reducible refine (HNw.out _).mono ?_
  rintro er w7 ⟨x, rfl, hCA, hb7⟩
  have HB7 := Lib.hid (HB6.out.trans (below_le HB6.out.size hb7))
  have HDe := Lib.hid (decodeC_any hCA (HP6.out.ext hb7) hk1 hkn (Nat.le_refl _) hn8.2.1 (by omega) (by omega))
  clear hb7 hCA ck cn HB6 HC6 HP6 HNw
  go_wp2_with fail
  with_reducible refine HDe.out.mono ?_
  rintro er w8 ⟨v8, rfl, ⟨us, hus⟩, hb8⟩
  have HB8 := Lib.hid (HB7.out.trans (below_le HB7.out.size hb8))
  obtain ⟨A8, c8, hA8⟩ := own_open hus.own
  rw [List.length_map, List.length_range] at hA8
  subst hA8
  have HU := Lib.hid hus
  clear hus hb8 HDe HB7
  go_wp2_with fail
  have HWo : Hid (w.heap.size ≤ w8.heap.size) := HB8.out.size
  go_loopw [14, 85] (fun v i wi => ∃ d : Nat, d ≤ k ∧ i = .int .i64 d ∧ Hid (OwnKs wi w8.heap.size v ((List.range d).map fun d => (F d).data)) ∧ Hid (Below w8.heap.size w8 wi)) (fun _ i _ => k - (intOf i).toNat)
  case atStart => exact ⟨0, Nat.zero_le _, rfl, World.ownsRow_nil _ _ _ _, Below.refl _ _⟩
  case round =>
    obtain ⟨d, hd, rfl, hv, hB⟩ := hrel
    have hop := hv.out
    unfold OwnKs at hop
    rw [List.length_map, List.length_range] at hop
    obtain ⟨A4, c4, hA4⟩ := own_open hop
    subst hA4
    have HOp := Lib.hid hop
    clear hop
    by_cases hlt2 : d < k
    · have hi2 : (d : Int) < k := by omega
      have hRx := HU.out.ext hB.out
      obtain ⟨A', c', hA', hcell⟩ := hRx.open_
      injection hA' with e1 e2 e3
      clear e2 e3
      subst e1
      obtain ⟨gA, rfl, _, hgA, hcl⟩ := hcell d (by rw [List.length_map, List.length_range]; exact hlt2)
      have hDl : (F d).data.length = 108 := HFl.out d
      obtain ⟨gp, cpp, hus, _, hgp, hcp, hpc⟩ := ownB_cells (hRx.row d (F d).data (by rw [List.getElem?_map, List.getElem?_range hlt2]; rfl)) (by rw [hDl]; omega)
      obtain ⟨D, hD⟩ : ∃ D, (F d).data = D := ⟨_, rfl⟩
      rw [hD] at hus hpc hDl hcp
      rw [hDl] at hus hpc hcp
      rw [hus] at hcl
      have hld := ldK_mid hDl hpc
      have harr := run_arrAt wr gp cpp
      have hbs := bsK_run hDl wr
      have hbn := below_new wr (.cells (bvs D).toArray 315)
      have HO3 := Lib.hid (own_turned (P := fun _ => False) HOp.out (Turned.of_below hbn) (fun _ _ => id))
      have HB3 := Lib.hid (hB.out.trans (below_le hB.out.size hbn))
      have HCn := Lib.hid (cells_newK wr D)
      have HDD := Lib.hid hD
      have HDl : Hid ((bvs D).length = 1 * 108) := by
        show _ = _
        rw [bvs_len, hDl]
      obtain ⟨w9, hw9⟩ : ∃ w9, wr.alloc (.cells (bvs D).toArray 315) = w9 := ⟨_, rfl⟩
      rw [hw9] at hbs HO3 HB3 HCn
      clear hD hw9 hbn hRx hcell hv hpc hus hgp hB hDl
      go_wp2_with (first | (at_builtin; go_loud (refine wpList_append_gen rfl (.tmp 89) (.tmp 93) 189 rfl 315 ii _ 108 108 Tryz.underlying189 HI.out HZ.out HSz.out HY.out zk_size (by omega) w8.heap.size w8 _ d _ rfl HO3.out ⟨wr.heap.size, 0, none⟩ 1 1 (bvs D) rfl HDl.out HCn.out (bvs_one D) (by unfold maxLen; omega) (by omega) HB3.out HB3.out.size ?_); intro A5 c5 w5 ho5 hg5 hob5 hb5 hs5) | fail)
      have HN5 : Hid (OwnKs w5 w8.heap.size (.slice A5 (d + 1) c5) ((List.range (d + 1)).map fun d => (F d).data)) := by
        have h := ho5.out
        show w5.ownsRow _ _ _ _ (List.map _ _).length _
        rw [List.length_map, List.length_range, List.range_succ, List.map_append, List.flatMap_append]
        simpa [HDD.out] using h
      exact ⟨⟨d + 1, by omega, by go_num, HN5, hb5⟩, by simp [intOf]; omega⟩
    · have hdn : d = k := by omega
      subst hdn
      have hi2 : ¬ (d : Int) < d := by omega
      go_wp2_with fail
      go_ret3
      exact ⟨_, rfl, own_base hv.out HWo.out, HB8.out.trans (below_le HWo.out hB.out)⟩
end Go.Proofs.YtkdlofgfkfhofaaGreatDoor

/-
  volume: bare.
-/
namespace Go.Proofs.YtkdlofgfkfhofaaGreatDoor
open Go.RowKit Go.Maps

/-- disks without superblocks -/
def bareW (W : Nat → Nat → List UInt8) (d : Nat) : Nat → Nat → List UInt8 := fun a t => if a < d ∧ t = 0 then rep 128 0 else W a t
theorem bareW_step (W : Nat → Nat → List UInt8) (j a t : Nat) : putS (bareW W j) j 0 (rep 128 0) a t = bareW W (j + 1) a t := by
  unfold putS bareW
  by_cases h1 : a = j ∧ t = 0
  · rw [if_pos h1, if_pos (by omega)]
  · rw [if_neg h1]
    by_cases h2 : a < j ∧ t = 0
    · rw [if_pos h2, if_pos (by omega)]
    · rw [if_neg h2, if_neg (by omega)]
set_option maxRecDepth 100000 in
set_option maxHeartbeats 4000000 in
theorem vBare_any {w : World} {o : Nat → Option Nat} {r n S : Nat} {W : Nat → Nat → List UInt8} (h : StoAt w o r n S W) :
    Calls Tryz.prog 52 #[.pointer (some ⟨r, 0, none⟩)] w fun e w' => e = .returned .nilIface ∧ ∃ o', StoP w o r n S (bareW W n) o' w' := by
  have hn8 := h.lt
  have HN := Lib.hid (stoN h)
  have HP0 := Lib.hid (StoP.refl h)
  clear h
  go_enter Tryz.func52, Tryz.ntmps52
  go_wp2_with fail
  with_reducible refine HN.out.mono ?_
  rintro er w1 ⟨rfl, rfl⟩
  go_wp2_with fail
  have hmk : ∀ v : World, (Instr.makeSlice 26 (.int .i64 128) (.int .i64 128)).run Tryz.prog v = .ok (.slice (some ⟨v.heap.size, 0, none⟩) 128 128) (v.alloc (zeroBytes 128)) := mk_bytes 128 128 rfl (by omega)
  have HMk := Lib.hid hmk
  clear HN hmk
  go_loopw [9] (fun i wr => ∃ (j : Nat) (o1 : Nat → Option Nat), j ≤ n ∧ i = .int .i64 j ∧ Hid (StoP w1 o r n S (bareW W j) o1 wr)) (fun i _ => n - (intOf i).toNat)
  case atStart => exact ⟨0, o, Nat.zero_le _, rfl, HP0.out.same (fun a t _ => by unfold bareW; rw [if_neg (by omega)])⟩
  case round =>
    obtain ⟨j, o1, hj, rfl, hP⟩ := hrel
    clear HP0
    by_cases hlt : j < n
    · have hi : (j : Int) < n := by omega
      have hb := below_new wr (zeroBytes 128)
      have HR : Hid (RdB (wr.alloc (zeroBytes 128)) (some ⟨wr.heap.size, 0, none⟩) 128 128 (rep 128 0)) := RdB.const wr (rep 128 0) _ rfl _ _ 128 (rep_len 128 0).symm (by omega)
      have HP1 := Lib.hid (hP.out.ext hb)
      have HO1 := Lib.hid (hP.out.at_.newO (Nat.le_refl _))
      obtain ⟨w2, hw2⟩ : ∃ w2, wr.alloc (zeroBytes 128) = w2 := ⟨_, rfl⟩
      have hmk2 := HMk.out wr
      rw [hw2] at hmk2 HR HP1
      clear hb hw2 hP
      have HWr : Hid (Calls Tryz.prog 95 #[.pointer (some ⟨r, 0, none⟩), .int .i64 j, .int .i64 0, .slice (some ⟨wr.heap.size, 0, none⟩) 128 128] w2 fun e w' => e = .returned .nilIface ∧ ∃ o', StoP w2 o1 r n S (putS (bareW W j) j 0 (rep 128 0)) o' w') := stoWrite (s := 0) HP1.out.at_ hlt (by omega) (rep_len 128 0) HR.out HO1.out
      go_wp2_with fail
      with_reducible refine HWr.out.mono ?_
      rintro er w3 ⟨rfl, o3, hp3⟩
      have HP3 := Lib.hid (HP1.out.then hp3)
      clear hp3
      go_wp2_with fail
      exact ⟨⟨j + 1, o3, by omega, by go_num, HP3.out.same (fun a t _ => bareW_step W j a t)⟩, by simp [intOf]; omega⟩
    · have hjn : j = n := by omega
      subst hjn
      have hi : ¬ (j : Int) < j := by omega
      go_wp2_with fail
      with_reducible refine (stoN hP.out.at_).mono ?_
      rintro er w2 ⟨rfl, rfl⟩
      go_wp2_with fail
      obtain ⟨wo, rfl⟩ : ∃ wo, wo = w2 := ⟨_, rfl⟩
      go_loopw [22] (fun i wr => ∃ (m : Nat) (o2 : Nat → Option Nat), m ≤ j ∧ i = .int .i64 m ∧ Hid (StoP w1 o r j S (bareW W j) o2 wr)) (fun i _ => j - (intOf i).toNat)
      case atStart => exact ⟨0, o1, Nat.zero_le _, rfl, hP⟩
      case round =>
        obtain ⟨m, o2, hm, rfl, hP2⟩ := hrel
        clear hP
        by_cases hmj : m < j
        · have hi : (m : Int) < j := by omega
          go_wp2_with fail
          with_reducible refine (stoFlush hP2.out.at_ hmj).mono ?_
          rintro er w3 ⟨rfl, o3, hp3⟩
          have HP3 := Lib.hid (hP2.out.then hp3)
          clear hp3
          go_wp2_with fail
          exact ⟨⟨m + 1, o3, by omega, by go_num, HP3⟩, by simp [intOf]; omega⟩
        · have hmj2 : m = j := by omega
          subst hmj2
          have hi : ¬ (m : Int) < m := by omega
          go_wp2_with fail
          go_ret
          exact ⟨rfl, o2, hP2.out⟩
end Go.Proofs.YtkdlofgfkfhofaaGreatDoor
