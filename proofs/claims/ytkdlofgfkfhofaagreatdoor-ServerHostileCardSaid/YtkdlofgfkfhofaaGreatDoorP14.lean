import Derived.Test.YtkdlofgfkfhofaaGreatDoorP12
import Derived.Deep.RegionHeld3
/-
  code: solve, where the first k parts are the blocks themselves.
-/
namespace Go.Proofs.YtkdlofgfkfhofaaGreatDoor
open Go.RowKit Go.Maps

/-- an append: both rows behind it -/
theorem sol_app {w4 wn w5 : World} {B n : Nat} {mv ov v5 u : Value} {ms os : Nat → Value} {Ms Os : List (List UInt8)} {l : List UInt8} (hM : RowsAt w4 B mv ms Ms) (hO : RowsAt w4 B ov os Os) (hn : Ms.length = n) (hbn : Below w4.heap.size w4 wn) (hg : wn.grownBy w5 mv.ownBlock)
    (ho : w5.ownsRow B 26 1 v5 (n + 1) ((List.range n).map ms ++ [u])) (hu : OwnB w4 B u l) (hx : v5.ownBlock = mv.ownBlock ∨ v5.ownBlock = some wn.heap.size) (hne : ∀ g, mv.ownBlock = some g → ov.ownBlock ≠ some g) :
    RowsAt w5 B v5 (snocV ms n u) (Ms ++ [l]) ∧ RowsAt w5 B ov os Os ∧ ∀ g, v5.ownBlock = some g → ov.ownBlock ≠ some g := by
  obtain ⟨h1, h2⟩ := hM.app hn hbn hg ho hu
  refine ⟨h1, hO.turned h2 (fun g hg' e => hne g e hg') (fun i l hl g hg' e => ?_), fun g hg' e => ?_⟩
  · obtain ⟨cs, a1, _⟩ := hM.ownT e
    exact (hO.row i l hl).notT hg' a1 (by decide)
  · rcases hx with hx | hx
    · rw [hx] at hg'
      exact hne g hg' e
    · rw [hx] at hg'
      injection hg' with hg'
      have := (World.ownsRow.lt hO.own g e).2
      have := hbn.size
      omega
theorem Turned.then_grown1 {P : Nat → Prop} {w w4 wn w5 : World} {row : Option Nat} (h : Turned P w w4) (hb : Below w4.heap.size w4 wn) (hg : wn.grownBy w5 row) (hr : ∀ k, row = some k → P k) : Turned P w w5 :=
  (h.then_below hb).then_grown hg (fun k e => .inl (hr k e))
attribute [local go_sem ↓] ldP_eq stP_eq
set_option maxRecDepth 100000 in
set_option maxHeartbeats 8000000 in
theorem solve_any {B c f k n : Nat} {cv : Value} {cvs : Nat → Value} {w : World} (hC : CodeP w B c f k cv cvs ((List.range n).map (rowC k))) {B' L : Nat} {v : Value} {vs : Nat → Value} {Ls : Nat → List UInt8} (hP : PartsAt w B' v vs k L Ls) (hk : 1 ≤ k) (hn : k ≤ n) (h8 : n ≤ 8) (hL : L ≤ 1000) (hL1 : 1 ≤ L) :
    Calls Tryz.prog 256 #[.pointer (some ⟨c, 0, none⟩), v] w fun e w' => ∃ u, e = .returned u ∧ (∃ us, RowsAt w' w.heap.size u us ((List.range k).map Ls)) ∧ Below w.heap.size w w' := by
  obtain ⟨ii, hi0, hz0, hs0, hy0⟩ := info_parts info_bs
  have HI := Lib.hid hi0
  have HZ := Lib.hid hz0
  have HSz := Lib.hid hs0
  have HY := Lib.hid hy0
  obtain ⟨A, cc, rfl, hcell⟩ := hP.open_
  have HC := Lib.hid hC
  have HP := Lib.hid hP
  have HCell := Lib.hid hcell
  clear hi0 hz0 hs0 hy0 hC hP hcell
  go_enter Tryz.func256, Tryz.ntmps256
  go_wp2_with fail
  go_loopw [5, 6, 15] (fun mv ov i wr => ∃ (j : Nat) (ms os : Nat → Value), j ≤ k ∧ i = .int .i64 j ∧ Hid (RowsAt wr w.heap.size mv ms ((List.range j).map (rowC k))) ∧ Hid (RowsAt wr w.heap.size ov os ((List.range j).map Ls)) ∧ Hid (∀ g, mv.ownBlock = some g → ov.ownBlock ≠ some g) ∧ Hid (Below w.heap.size w wr)) (fun _ _ i _ => k - (intOf i).toNat)
  case atStart => exact ⟨0, fun _ => .slice none 0 0, fun _ => .slice none 0 0, Nat.zero_le _, rfl, RowsAt.nil _ _ _, RowsAt.nil _ _ _, (show ∀ g, (Value.slice none 0 0).ownBlock = some g → (Value.slice none 0 0).ownBlock ≠ some g from fun g hg => (by cases hg)), Below.refl _ _⟩
  case round =>
    obtain ⟨j, ms, os, hj, rfl, hM, hO, hne, hB⟩ := hrel
    by_cases hlt : j < k
    · have hi : (j : Int) < k := by omega
      obtain ⟨gp, e, -, hgp, p1, p2⟩ := HCell.out j hlt
      subst e
      obtain ⟨hLj, Aj, cj, hvj, hrj⟩ := HP.out.row j hlt
      rw [hvj] at p2
      have p1r : wr.cell? ⟨gp, j * 2, none⟩ = some (.int .i64 (j : Int)) := (hB.out.cell (p := ⟨gp, j * 2, none⟩) hgp).trans (by rw [Nat.mul_comm]; exact p1)
      have p2r : wr.cell? ⟨gp, j * 2 + 1, none⟩ = some (.slice Aj L cj) := (hB.out.cell (p := ⟨gp, j * 2 + 1, none⟩) hgp).trans (by rw [Nat.mul_comm]; exact p2)
      have hld := ldP_at p1r p2r
      have hst := stP_new wr (.int .i64 0) (.slice none 0 0) (.int .i64 (j : Int)) (.slice Aj L cj) rfl rfl
      obtain ⟨Am, cm, hmv, -⟩ := hM.out.open_
      have hlm : ((List.range j).map (rowC k)).length = j := by simp
      rw [hlm] at hmv
      subst hmv
      obtain ⟨Ao, co, hov, -⟩ := hO.out.open_
      have hlo : ((List.range j).map Ls).length = j := by simp
      rw [hlo] at hov
      subst hov
      go_upto_region 5 with fail
      have hbn := below_new wr (.cells #[.int .i64 (j : Int), .slice Aj L cj] 408)
      have hkn := Bk.made wr 408 #[.int .i64 (j : Int), .slice Aj L cj]
      obtain ⟨pb, hpb⟩ : ∃ pb, pb = wr.heap.size := ⟨_, rfl⟩
      rw [← hpb] at hkn ⊢
      generalize wr.alloc (.cells #[.int .i64 (j : Int), .slice Aj L cj] 408) = W at hbn hkn ⊢
      have hBW := hB.out.trans (below_le hB.out.size hbn)
      have hMW := hM.out.ext hbn
      have hOW := hO.out.ext hbn
      have hMl : ∀ b, (Value.slice Am j cm).ownBlock = some b → w.heap.size ≤ b ∧ b < wr.heap.size := fun b e => World.ownsRow.lt hM.out.own b e
      have hOl : ∀ b, (Value.slice Ao j co).ownBlock = some b → w.heap.size ≤ b ∧ b < wr.heap.size := fun b e => World.ownsRow.lt hO.out.own b e
      have hCW := HC.out.ext hBW
      obtain ⟨Ac, ccc, hcv, hcr⟩ := HC.out.rows.open_
      have hln : ((List.range n).map (rowC k)).length = n := by simp
      rw [hln] at hcv hcr
      obtain ⟨gc, e, -, hgc, hcj⟩ := hcr j (by omega)
      subst e
      subst hcv
      obtain ⟨Ar, cr, hvr, hrr⟩ := (HC.out.rows.row j (rowC k j) (by rw [List.getElem?_map, List.getElem?_range (by omega)]; rfl)).reads
      have hlk : (rowC k j).length = k := by simp [rowC]
      rw [hlk] at hvr hrr
      rw [hvr] at hcj
      have hcl := HC.out.bk.lt
      obtain ⟨adr, hAr, hadr, -⟩ := Rd.get hrr (k := 0) (by omega)
      obtain ⟨adj, hAj, hadj, -⟩ := Rd.get hrj (k := 0) (by omega)
      have HCl1 : Hid (∀ v, Turned (fun b => (Value.slice Am j cm).ownBlock = some b ∨ (Value.slice Ao j co).ownBlock = some b) W v → Calls Tryz.prog 44 #[.slice Ar k cr] v fun e w' => ∃ A c, e = .returned (.slice A k c) ∧ OwnB w' v.heap.size (.slice A k c) (rowC k j) ∧ Below v.heap.size v w') := fun v hv => by
        refine (clone_own Ar k cr (rowC k j) v ((hrr.ext hBW).turned hv fun ad e h => ?_) (by omega)).mono fun e w' ⟨u, a1, a2, a3⟩ => ?_
        · rw [hAr] at e
          injection e with e
          rw [e] at hadr
          rcases h with h | h
          · have := (hMl _ h).1; omega
          · have := (hOl _ h).1; omega
        · obtain ⟨A, c, rfl, _⟩ := a2.reads
          rw [hlk] at a1 a2
          exact ⟨A, c, a1, a2, a3⟩
      have HCl2 : Hid (∀ v, Turned (fun b => (Value.slice Am j cm).ownBlock = some b ∨ (Value.slice Ao j co).ownBlock = some b) W v → Calls Tryz.prog 44 #[.slice Aj L cj] v fun e w' => ∃ A c, e = .returned (.slice A L c) ∧ OwnB w' v.heap.size (.slice A L c) (Ls j) ∧ Below v.heap.size v w') := fun v hv => by
        refine (clone_own Aj L cj (Ls j) v ((hrj.ext hBW).turned hv fun ad e h => ?_) (by omega)).mono fun e w' ⟨u, a1, a2, a3⟩ => ?_
        · rw [hAj] at e
          injection e with e
          rw [e] at hadj
          rcases h with h | h
          · have := (hMl _ h).1; omega
          · have := (hOl _ h).1; omega
        · obtain ⟨A, c, rfl, _⟩ := a2.reads
          rw [hLj] at a1 a2
          exact ⟨A, c, a1, a2, a3⟩
      have FS : Hid (∀ v, Turned (fun b => (Value.slice Am j cm).ownBlock = some b ∨ (Value.slice Ao j co).ownBlock = some b) W v → v.cell? ⟨c, 2, none⟩ = some (.slice (some ⟨gc, 0, none⟩) n ccc) ∧ v.cell? ⟨gc, j, none⟩ = some (.slice Ar k cr) ∧ v.cell? ⟨pb, 0, none⟩ = some (.int .i64 (j : Int)) ∧ v.cell? ⟨pb, 1, none⟩ = some (.slice Aj L cj)) := fun v hv => by
        have hlow : ∀ b, b < w.heap.size → ¬ ((Value.slice Am j cm).ownBlock = some b ∨ (Value.slice Ao j co).ownBlock = some b) := fun b hb h => by
          rcases h with h | h
          · have := (hMl _ h).1; omega
          · have := (hOl _ h).1; omega
        have hpbn : ¬ ((Value.slice Am j cm).ownBlock = some pb ∨ (Value.slice Ao j co).ownBlock = some pb) := fun h => by
          rcases h with h | h
          · have := (hMl _ h).2; omega
          · have := (hOl _ h).2; omega
        have hk2 := hkn.turned hv hpbn
        exact ⟨(hCW.bk.turned hv (hlow c hcl)).cell 2, (turned_cell hv (p := ⟨gc, j, none⟩) (Nat.lt_of_lt_of_le hgc hBW.size) (hlow gc hgc)).trans ((hBW.cell (p := ⟨gc, j, none⟩) hgc).trans hcj), hk2.cell 0, hk2.cell 1⟩
      have F0 : Hid (Turned (fun b => (Value.slice Am j cm).ownBlock = some b ∨ (Value.slice Ao j co).ownBlock = some b) W W.drew) := Turned.of_below (below_drew1 (Below.refl _ _))
      have HMW : Hid (RowsAt W.drew w.heap.size (.slice Am j cm) ms ((List.range j).map (rowC k))) := hMW.ext (below_drew1 (Below.refl _ _))
      have HOW : Hid (RowsAt W.drew w.heap.size (.slice Ao j co) os ((List.range j).map Ls)) := hOW.ext (below_drew1 (Below.refl _ _))
      have HBW := Lib.hid hBW
      have HLm := Lib.hid hlm
      have HLo := Lib.hid hlo
      have HNe := hne
      have HMl := Lib.hid hMl
      have HOl := Lib.hid hOl
      have HWs : Hid (wr.heap.size ≤ W.heap.size) := hbn.size
      have hjn : (j : Int) < n := by omega
      clear hbn hkn hBW hMW hOW hCW hcr hgc hvr hrr hlk hcj hcl hadr hadj hAr hAj hlm hlo hMl hOl hpb hrj hvj p1 p2 p1r p2r hld hst hgp
      go_region_held3 (fun v => v.cell? ⟨c, 2, none⟩ = some (.slice (some ⟨gc, 0, none⟩) n ccc) ∧ v.cell? ⟨gc, j, none⟩ = some (.slice Ar k cr) ∧ v.cell? ⟨pb, 0, none⟩ = some (.int .i64 (j : Int)) ∧ v.cell? ⟨pb, 1, none⟩ = some (.slice Aj L cj)) (first | exact FS.out _ F0.out | exact FS.out _ T4.out | exact FS.out _ T4a.out | exact FS.out _ T5.out | exact FS.out _ T6.out | exact FS.out _ T6a.out | exact FS.out _ T7.out | fail) (first | (go_at_call 44; first | ((with_reducible refine (HCl1.out _ F0.out).mono ?_); rintro er w4 ⟨A4, c4, rfl, ho4, hb4⟩; have T4 := Lib.hid (F0.out.then_below hb4); have HM4 := Lib.hid (HMW.out.ext hb4); have HO4 := Lib.hid (HOW.out.ext hb4); have HR4 := Lib.hid ho4; have HBn4 := Lib.hid (below_new w4 (.cells #[.slice A4 k c4] 26)); have T4a := Lib.hid (T4.out.then_below HBn4.out); have HOw4 := Lib.hid (own_turned (P := fun _ => False) HM4.out.own (Turned.of_below HBn4.out) (fun _ _ => id)); rw [HLm.out] at HOw4; have hS4 : Hid (w.heap.size ≤ w4.heap.size) := Nat.le_trans HBW.out.size T4.out.size; clear ho4 hb4) | ((with_reducible refine (HCl2.out _ T5.out).mono ?_); rintro er w6 ⟨A6, c6, rfl, ho6, hb6⟩; have hS5 : Hid (w.heap.size ≤ w5.heap.size) := Nat.le_trans HBW.out.size T5.out.size; have T6 := Lib.hid (T5.out.then_below hb6); have HM6 := Lib.hid (HM5.out.ext hb6); have HO6 := Lib.hid (HO5.out.ext hb6); have HR6 := Lib.hid ho6; have HBn6 := Lib.hid (below_new w6 (.cells #[.slice A6 L c6] 26)); have T6a := Lib.hid (T6.out.then_below HBn6.out); have HOw6 := Lib.hid (own_turned (P := fun _ => False) HO6.out.own (Turned.of_below HBn6.out) (fun _ _ => id)); rw [HLo.out] at HOw6; have hS6 : Hid (w.heap.size ≤ w6.heap.size) := Nat.le_trans HBW.out.size T6.out.size; clear ho6 hb6)) | (go_loud (refine step_append_B w.heap.size (by rfl) (.tmp 19) (.tmp 29) 58 (by rfl) 26 ii _ 1 24 Tryz.underlying58 HI.out HZ.out HSz.out HY.out (by rfl) (by omega) (.slice Am j cm) j ((List.range j).map ms) (by rfl) HOw4.out ⟨w4.heap.size, 0, none⟩ 1 1 [.slice A4 k c4] (by rfl) (by rfl) (cell_new1 _ _ _) (one_s _ _ _) (by unfold maxLen; omega) (by omega) (Nat.le_trans hS4.out HBn4.out.size) (j + 1) rfl ?_); intro A5 c5 w5 ho5 hg5 hx5; go_loud (have hp5 := sol_app HM4.out HO4.out HLm.out HBn4.out hg5.out ho5.out (HR4.out.moreD HBW.out.size) hx5.out HNe.out; have HM5 := Lib.hid hp5.1; have HO5 := Lib.hid hp5.2.1; have HN5 := Lib.hid hp5.2.2; have T5 := Lib.hid (T4.out.then_grown1 HBn4.out hg5.out (fun _ e => .inl e)); clear hp5)) | (go_loud (refine step_append_B w.heap.size (by rfl) (.tmp 31) (.tmp 35) 58 (by rfl) 26 ii _ 1 24 Tryz.underlying58 HI.out HZ.out HSz.out HY.out (by rfl) (by omega) (.slice Ao j co) j ((List.range j).map os) (by rfl) HOw6.out ⟨w6.heap.size, 0, none⟩ 1 1 [.slice A6 L c6] (by rfl) (by rfl) (cell_new1 _ _ _) (one_s _ _ _) (by unfold maxLen; omega) (by omega) (Nat.le_trans hS6.out HBn6.out.size) (j + 1) rfl ?_); intro A7 c7 w7 ho7 hg7 hx7; go_loud (have hp7 := sol_app HO6.out HM6.out HLo.out HBn6.out hg7.out ho7.out (HR6.out.moreD hS5.out) hx7.out (fun g e e2 => HN5.out g e2 e); have HM7 := Lib.hid hp7.2.1; have HO7 := Lib.hid hp7.1; have HN7 := Lib.hid hp7.2.2; have T7 := Lib.hid (T6.out.then_grown1 HBn6.out hg7.out (fun _ e => .inr e)); clear hp7)) | fail)
      all_goals
        have hrm : (List.range (j + 1)).map (rowC k) = (List.range j).map (rowC k) ++ [rowC k j] := by
          rw [List.range_succ, List.map_append]
          rfl
        have hro : (List.range (j + 1)).map Ls = (List.range j).map Ls ++ [Ls j] := by
          rw [List.range_succ, List.map_append]
          rfl
        have r1 := HM7.out
        have r2 := HO7.out
        rw [← hrm] at r1
        rw [← hro] at r2
        have R1 := Lib.hid r1
        have R2 := Lib.hid r2
        have RN : Hid (∀ g, (Value.slice A5 (j + 1) c5).ownBlock = some g → (Value.slice A7 (j + 1) c7).ownBlock ≠ some g) := fun g e e2 => HN7.out g e2 e
        have RB : Hid (Below w.heap.size w w7) := T7.out.below HBW.out HBW.out.size (fun i h => by
          rcases h with h | h
          · exact (HMl.out _ h).1
          · exact (HOl.out _ h).1)
        clear r1 r2 hrm hro
        go_wp2_with fail
        exact ⟨⟨j + 1, _, _, by omega, by go_num, R1, R2, RN, RB⟩, by simp [intOf]; omega⟩
    · have hj1 : j = k := by omega
      have HJ := Lib.hid hj1
      rw [hj1] at hM hO
      have hi : ¬ (j : Int) < k := by omega
      obtain ⟨Am, cm, hmv, hmc⟩ := hM.out.open_
      have hlm : ((List.range k).map (rowC k)).length = k := by simp
      rw [hlm] at hmv hmc
      subst hmv
      obtain ⟨Ao, co, hov, hoc⟩ := hO.out.open_
      have hlo : ((List.range k).map Ls).length = k := by simp
      rw [hlo] at hov hoc
      subst hov
      have HMc := Lib.hid hmc
      have HOc := Lib.hid hoc
      obtain ⟨W, hW⟩ : ∃ W, W = wr := ⟨_, rfl⟩
      clear hmc hoc hlm hlo hj1
      subst hW
      have hmr : ∀ i, i < k → ∃ g cap, ms i = .slice (some ⟨g, 0, none⟩) k cap ∧ OwnAt W g cap (rowC k i) := fun i hik => by
        have h := hM.out.row i (rowC k i) (by rw [List.getElem?_map, List.getElem?_range hik]; rfl)
        have hl : (rowC k i).length = k := by simp [rowC]
        rcases h.open_ with ⟨_, h0⟩ | ⟨g, cap, h1, _, h2⟩
        · rw [h0] at hl
          simp at hl
          omega
        · rw [hl] at h1
          exact ⟨g, cap, h1, h2⟩
      have hor : ∀ i, i < k → ∃ g cap, os i = .slice (some ⟨g, 0, none⟩) L cap ∧ OwnAt W g cap (Ls i) := fun i hik => by
        have h := hO.out.row i (Ls i) (by rw [List.getElem?_map, List.getElem?_range hik]; rfl)
        have hl := (HP.out.row i hik).1
        rcases h.open_ with ⟨_, h0⟩ | ⟨g, cap, h1, _, h2⟩
        · rw [h0] at hl
          simp at hl
          omega
        · rw [hl] at h1
          exact ⟨g, cap, h1, h2⟩
      have hcell : ∀ i j, i < k → j < k → ∀ g cap, OwnAt W g cap (rowC k i) → W.cell? ⟨g, j, none⟩ = some (.int .u8 (if i = j then 1 else 0)) := fun i j hi hj g cap h => by
        have hl : (rowC k i).length = k := by simp [rowC]
        obtain ⟨x, hx, hc⟩ := h.get (i := j) (by omega)
        have hx := hx.out
        unfold rowC at hx
        rw [List.getElem?_map, List.getElem?_range hj] at hx
        injection hx with hx
        rw [hc, ← hx]
        unfold cellC
        rw [if_neg (by omega)]
        by_cases e : i = j
        · rw [if_pos e, if_pos e]; rfl
        · rw [if_neg e, if_neg e]; rfl
      have HMr := Lib.hid hmr
      have HOr := Lib.hid hor
      have HCe := Lib.hid hcell
      have HCW := Lib.hid (HC.out.ext hB.out)
      have hgm : ∃ gm, Am = some ⟨gm, 0, none⟩ ∧ (∀ i, i < k → W.cell? ⟨gm, i, none⟩ = some (ms i)) ∧ ∃ cs, Bk W gm 26 cs := by
        obtain ⟨g, e, _, _, _⟩ := HMc.out 0 (by omega)
        refine ⟨g, e, fun i hi => ?_, ?_⟩
        · obtain ⟨g', e', _, _, h⟩ := HMc.out i hi
          rw [e] at e'
          injection e' with e'
          injection e' with e'
          rw [e']
          exact h
        · obtain ⟨cs, h, _⟩ := hM.out.ownT (g := g) (by rw [e]; rfl)
          exact ⟨cs, h⟩
      have hgo : ∃ go, Ao = some ⟨go, 0, none⟩ ∧ (∀ i, i < k → W.cell? ⟨go, i, none⟩ = some (os i)) ∧ ∃ cs, Bk W go 26 cs := by
        obtain ⟨g, e, _, _, _⟩ := HOc.out 0 (by omega)
        refine ⟨g, e, fun i hi => ?_, ?_⟩
        · obtain ⟨g', e', _, _, h⟩ := HOc.out i hi
          rw [e] at e'
          injection e' with e'
          injection e' with e'
          rw [e']
          exact h
        · obtain ⟨cs, h, _⟩ := hO.out.ownT (g := g) (by rw [e]; rfl)
          exact ⟨cs, h⟩
      obtain ⟨gm, rfl, hm2, hmb⟩ := hgm
      obtain ⟨go, rfl, ho2, hob⟩ := hgo
      have HM2 := Lib.hid hm2
      have HO2 := Lib.hid ho2
      have HMB := Lib.hid hmb
      have HOB := Lib.hid hob
      clear hmr hor hcell HMc HOc hm2 ho2 hmb hob
      go_wp2_with fail
      go_loopw [40] (fun i wr => ∃ col q : Nat, col ≤ k ∧ i = .int .i64 col ∧ wr = W.drewN q) (fun i _ => k - (intOf i).toNat)
      case atStart => exact ⟨0, 0, Nat.zero_le _, rfl, rfl⟩
      case round =>
        obtain ⟨col, q, hcol, rfl, rfl⟩ := hrel
        by_cases hlc : col < k
        · have hic : (col : Int) < k := by omega
          obtain ⟨gi, capi, hmi, hgi⟩ := HMr.out col hlc
          obtain ⟨oi, capo, hoi, hgo⟩ := HOr.out col hlc
          have d1 : ∀ q, (W.drewN q).cell? ⟨gm, col, none⟩ = some (.slice (some ⟨gi, 0, none⟩) k capi) := fun _ => by rw [← hmi]; exact HM2.out col hlc
          have d2 : ∀ q, (W.drewN q).cell? ⟨go, col, none⟩ = some (.slice (some ⟨oi, 0, none⟩) L capo) := fun _ => by rw [← hoi]; exact HO2.out col hlc
          have d3 : ∀ q, (W.drewN q).cell? ⟨gi, col, none⟩ = some (.int .u8 1) := fun _ => by
            have h := HCe.out col col hlc hlc gi capi hgi
            rw [if_pos rfl] at h
            exact h
          have hs1 : ∀ q, (W.drewN q).setCell ⟨gm, col, none⟩ (.slice (some ⟨gi, 0, none⟩) k capi) = W.drewN q := fun q => by
            obtain ⟨cs, h⟩ := HMB.out
            exact cell_sameD h (by rw [← hmi]; exact HM2.out col hlc)
          have hs2 : ∀ q, (W.drewN q).setCell ⟨go, col, none⟩ (.slice (some ⟨oi, 0, none⟩) L capo) = W.drewN q := fun q => by
            obtain ⟨cs, h⟩ := HOB.out
            exact cell_sameD h (by rw [← hoi]; exact HO2.out col hlc)
          have f1 : ∀ q, (W.drewN q).frozen? ⟨gm, col, none⟩ = false := fun q => by
            obtain ⟨cs, h⟩ := HMB.out
            exact Bk.thaw h col
          have f2 : ∀ q, (W.drewN q).frozen? ⟨go, col, none⟩ = false := fun q => by
            obtain ⟨cs, h⟩ := HOB.out
            exact Bk.thaw h col
          have c1 : ∀ q, (W.drewN q).cell? ⟨c, 1, none⟩ = some (.pointer (some ⟨f, 0, none⟩)) := fun _ => HCW.out.bk.cell 1
          have HInv : Hid (∀ q, Calls Tryz.prog 236 #[.pointer (some ⟨f, 0, none⟩), .int .u8 1] (W.drewN q) fun e w' => e = .returned (.int .u8 1) ∧ ∃ q', w' = W.drewN q') := fun q =>
            (inv_any (w := W.drewN q) HCW.out.fld 1).mono fun e w' ⟨a1, q', a2⟩ => ⟨by rw [a1, invG_one]; rfl, q + q', by rw [a2, drewN_drewN]⟩
          have HSc : Hid (∀ q, Calls Tryz.prog 287 #[.pointer (some ⟨c, 0, none⟩), .slice (some ⟨gi, 0, none⟩) k capi, .slice (some ⟨oi, 0, none⟩) L capo, .int .u8 1] (W.drewN q) fun e w' => e = .returned (.tuple #[]) ∧ ∃ q', w' = W.drewN q') := fun q =>
            (scale_any (w := W.drewN q) (HCW.out.ext (below_drawn (Below.refl _ _) q)) (hgi.drawn q) (hgo.drawn q) k capi L capo (by simp [rowC]) (HP.out.row col hlc).1.symm (by omega) hL).mono fun e w' ⟨a1, q', a2⟩ => ⟨a1, q + q', by rw [a2, drewN_drewN]⟩
          clear hmi hoi hgi hgo
          have hlast : (col : Int) < (k : Int) - 1 ∨ ¬ (col : Int) < (k : Int) - 1 := Classical.em _
          go_wp2_with fail
          go_loopw [10] (fun p wr => p = .int .i64 (col : Int) ∧ wr = W.drewN q) (fun _ _ => 0)
          case atStart => exact ⟨rfl, rfl⟩
          case round =>
            obtain ⟨rfl, rfl⟩ := hrel
            rcases hlast with hla | hla
            all_goals
              go_wp2_with fail
              go_region
              go_wp2_with fail
              have FS : Hid (∀ q, (fun v => v.cell? ⟨gm, col, none⟩ = some (.slice (some ⟨gi, 0, none⟩) k capi) ∧ v.cell? ⟨go, col, none⟩ = some (.slice (some ⟨oi, 0, none⟩) L capo) ∧ v.cell? ⟨gi, col, none⟩ = some (.int .u8 1) ∧ v.cell? ⟨c, 1, none⟩ = some (.pointer (some ⟨f, 0, none⟩))) (W.drewN q)) := fun q => ⟨d1 q, d2 q, d3 q, c1 q⟩
              clear d1 d2 d3 c1
              go_region_held3 (fun v => v.cell? ⟨gm, col, none⟩ = some (.slice (some ⟨gi, 0, none⟩) k capi) ∧ v.cell? ⟨go, col, none⟩ = some (.slice (some ⟨oi, 0, none⟩) L capo) ∧ v.cell? ⟨gi, col, none⟩ = some (.int .u8 1) ∧ v.cell? ⟨c, 1, none⟩ = some (.pointer (some ⟨f, 0, none⟩))) (first | exact FS.out (q + 2) | exact FS.out q4 | exact FS.out q5 | fail) (first | (go_at_call 236; go_loud ((with_reducible refine (HInv.out _).mono ?_); rintro er w4 ⟨rfl, q4, rfl⟩)) | (go_at_call 287; go_loud ((with_reducible refine (HSc.out _).mono ?_); rintro er w5 ⟨rfl, q5, rfl⟩)) | fail)
              go_wp2_with fail
              go_loopw [113] (fun i wr => ∃ a q : Nat, a ≤ k ∧ i = .int .i64 a ∧ wr = W.drewN q) (fun i _ => k - (intOf i).toNat)
              case atStart => exact ⟨0, q5, Nat.zero_le _, rfl, rfl⟩
              case round =>
                obtain ⟨a, q6, ha, rfl, rfl⟩ := hrel
                by_cases hla2 : a < k
                · have hia : (a : Int) < k := by omega
                  obtain ⟨ga, capa, hma, hga⟩ := HMr.out a hla2
                  have e1 : ∀ q, (W.drewN q).cell? ⟨gm, a, none⟩ = some (.slice (some ⟨ga, 0, none⟩) k capa) := fun _ => by rw [← hma]; exact HM2.out a hla2
                  have e2 : ∀ q, (W.drewN q).cell? ⟨ga, col, none⟩ = some (.int .u8 (if a = col then 1 else 0)) := fun _ => HCe.out a col hla2 hlc ga capa hga
                  clear hma hga
                  by_cases hac : a = col
                  · rw [if_pos hac] at e2
                    subst hac
                    go_wp2_with fail
                    exact ⟨⟨a + 1, _, by omega, by go_num, rfl⟩, by simp [intOf]; omega⟩
                  · rw [if_neg hac] at e2
                    have n1 : ((a : Int) != (col : Int)) = true := by rw [bne_iff_ne]; omega
                    go_wp2_with fail
                    exact ⟨⟨a + 1, _, by omega, by go_num, rfl⟩, by simp [intOf]; omega⟩
                · have ha1 : a = k := by omega
                  have hia : ¬ (a : Int) < k := by omega
                  clear ha1
                  go_wp2_with fail
                  exact ⟨⟨col + 1, _, by omega, by go_num, rfl⟩, by simp [intOf]; omega⟩
        · have hc1 : col = k := by omega
          have hic : ¬ (col : Int) < k := by omega
          clear hc1
          go_wp2_with fail
          go_ret
          exact ⟨_, rfl, ⟨_, hO.out.ext (below_drawn (Below.refl _ _) q)⟩, below_drawn hB.out q⟩
end Go.Proofs.YtkdlofgfkfhofaaGreatDoor
