/-
  The walk of the document's GetFrame: what it hands back is what frame.Get hands back.
-/
import Derived.Test.YtcggnphoekmoaaaFrmRef
namespace Go.Proofs.Ytcggnphoekmoaaa
open Go.RowKit CrcMath
attribute [local go_sem] w8_nn w8_256 wrap_i64_w8 wrap64_w8 pastA_zero pastA_some Frm.c0 Frm.c1 Frm.c2 Frm.c3
attribute [local go_sem ↓] sliced_past ldF_eq stF_eq bdF_eq

set_option maxRecDepth 100000 in
set_option maxHeartbeats 400000 in
theorem refGet_len (A : Option Addr) (n c : Nat) (w : World) (hn : ¬ n = 128) :
    Calls Try.prog 24 #[.slice A n c] w fun e w' => e = .returned (.tuple #[.agg zeroF.cells, .bool false]) ∧ Below w.heap.size w w' := by
  have hz := zero_frm
  have t0 : ((n : Int) != 128) = true := by rw [bne_iff_ne]; omega
  have hbd := bdF_none
  have hst := stF_new w zeroF zeroF blank_len blank_len
  go_enter Try.func24, Try.ntmps24
  go_wp2
  exact bodyPost_ret (res_frm rfl _ _ w.heap.size zeroF rfl (Bk.made w _ _) blank_len) rfl ⟨rfl, below_new _ _⟩
set_option maxRecDepth 100000 in
set_option maxHeartbeats 1000000 in
/-- the sector's first two bytes are wrong, or its sum is -/
theorem refGet_sum (A : Option Addr) (c : Nat) (l : List UInt8) (w : World) (hr : RdB w A 128 c l) (hbad : ¬ (leN (l.take 2) = 21587 ∧ (on 0#32 (l.take 124)).toNat = leN (l.drop 124))) :
    Calls Try.prog 24 #[.slice A 128 c] w fun e w' => e = .returned (.tuple #[.agg zeroF.cells, .bool false]) ∧ Below w.heap.size w w' := by
  have hz := zero_frm
  have hbd := bdF_none
  have hcap := hr.cap
  have hbig := hr.big
  have HR := Lib.hid hr
  clear hr
  have c2 : (2 : Int) ≤ (c : Int) := by omega
  have c124 : (124 : Int) ≤ (c : Int) := by omega
  have wr := wrap_u64_in (w32 (on 0#32 (l.take 124))) (w32_lt _).1 (by have := (w32_lt (on 0#32 (l.take 124))).2; omega)
  by_cases hm : leN (l.take 2) = 21587
  · have hc : ¬ (on 0#32 (l.take 124)).toNat = leN (l.drop 124) := fun h => hbad ⟨hm, h⟩
    have t1 : (((leN (l.take 2) : Nat) : Int) != 21587) = false := by rw [bne_eq_false_iff_eq]; omega
    have t2 : ((w32 (on 0#32 (l.take 124)) : Int) != ((leN (l.drop 124) : Nat) : Int)) = true := by rw [bne_iff_ne]; unfold w32; omega
    clear hbad hm hc
    go_enter Try.func24, Try.ntmps24
    go_wp2_with fail
    refine wp_cut (fun w' => Bk w' w.heap.size 38 zeroF.cells ∧ Below w.heap.size w w') ⟨Bk.made w _ _, below_new _ _⟩ ?_
    rintro w1 ⟨hb1, hB1⟩
    have HB1 := Lib.hid hb1
    clear hb1
    have hBig2 := Lib.hid fun t : Ext w1 => ext_of_same (big_any _ 2 c (l.take 2) t.w (((HR.out.upto 2 (by omega)).ext hB1).ext t.below) (by omega))
    have hCrc := Lib.hid fun t : Ext w1 => ext_of_same (refCrc_any _ 124 c (l.take 124) t.w (((HR.out.upto 124 (by omega)).ext hB1).ext t.below))
    have hBig4 := Lib.hid fun t : Ext w1 => ext_of_same (big_any (pastA _ 124 c 1) 4 (c - 124) (l.drop 124) t.w (((HR.out.past' 124 (by omega)).ext hB1).ext t.below) (by omega))
    refine wp_region_ext (by kernel_rfl) (by kernel_rfl) ?_
    repeat (go_big_quiet_step (first
      | (go_at_call 36; with_reducible exact hBig2.out _)
      | (go_at_call 36; with_reducible exact hBig4.out _)
      | (go_at_call 35; with_reducible exact hCrc.out _)))
    refine wpQuiet_nil ?_
    intro _ hw'
    obtain ⟨t, hw''⟩ := hw'
    subst hw''
    have hB2 := hB1.trans (below_le hB1.size t.below)
    have HB2 := Lib.hid (HB1.out.ext t.below)
    generalize t.w = w2 at hB2 HB2
    clear hBig2 hCrc hBig4 HB1 hB1
    have hst := stF_bk w2 w.heap.size zeroF zeroF HB2.out blank_len blank_len
    go_wp2
    exact bodyPost_ret (res_frm rfl _ _ w.heap.size zeroF rfl (Bk.row HB2.out _) blank_len) rfl ⟨rfl, hB2.grown (grown_row _ _ _) hB2.size (fun k hk => by injection hk with hk; omega)⟩
  · have t1 : (((leN (l.take 2) : Nat) : Int) != 21587) = true := by rw [bne_iff_ne]; omega
    clear hbad hm
    go_enter Try.func24, Try.ntmps24
    go_wp2_with fail
    refine wp_cut (fun w' => Bk w' w.heap.size 38 zeroF.cells ∧ Below w.heap.size w w') ⟨Bk.made w _ _, below_new _ _⟩ ?_
    rintro w1 ⟨hb1, hB1⟩
    have HB1 := Lib.hid hb1
    clear hb1
    have hBig2 := Lib.hid fun t : Ext w1 => ext_of_same (big_any _ 2 c (l.take 2) t.w (((HR.out.upto 2 (by omega)).ext hB1).ext t.below) (by omega))
    have hCrc := Lib.hid fun t : Ext w1 => ext_of_same (refCrc_any _ 124 c (l.take 124) t.w (((HR.out.upto 124 (by omega)).ext hB1).ext t.below))
    have hBig4 := Lib.hid fun t : Ext w1 => ext_of_same (big_any (pastA _ 124 c 1) 4 (c - 124) (l.drop 124) t.w (((HR.out.past' 124 (by omega)).ext hB1).ext t.below) (by omega))
    refine wp_region_ext (by kernel_rfl) (by kernel_rfl) ?_
    repeat (go_big_quiet_step (first
      | (go_at_call 36; with_reducible exact hBig2.out _)
      | (go_at_call 36; with_reducible exact hBig4.out _)
      | (go_at_call 35; with_reducible exact hCrc.out _)))
    refine wpQuiet_nil ?_
    intro _ hw'
    obtain ⟨t, hw''⟩ := hw'
    subst hw''
    have hB2 := hB1.trans (below_le hB1.size t.below)
    have HB2 := Lib.hid (HB1.out.ext t.below)
    generalize t.w = w2 at hB2 HB2
    clear hBig2 hCrc hBig4 HB1 hB1
    have hst := stF_bk w2 w.heap.size zeroF zeroF HB2.out blank_len blank_len
    go_wp2
    exact bodyPost_ret (res_frm rfl _ _ w.heap.size zeroF rfl (Bk.row HB2.out _) blank_len) rfl ⟨rfl, hB2.grown (grown_row _ _ _) hB2.size (fun k hk => by injection hk with hk; omega)⟩
def pickF (b : Bool) (f : Frm) : Frm := if b then f else zeroF
theorem cells_put (a b c d : Int) (D : List UInt8) (k : Nat) (x : UInt8) : (Frm.cells ⟨a, b, c, d, D⟩).setIfInBounds (4 + k) (.int .u8 (w8 x)) = Frm.cells ⟨a, b, c, d, D.set k x⟩ := by
  apply Array.ext'
  rw [Array.toList_setIfInBounds, show 4 + k = k + 4 by omega]
  show (_ :: _ :: _ :: _ :: bvs D).set (k + 4) _ = _ :: _ :: _ :: _ :: bvs (D.set k x)
  unfold bvs
  rw [List.map_set]
  rfl
set_option maxRecDepth 100000 in
set_option maxHeartbeats 1000000 in
/-- a sector whose first two bytes and sum are right -/
theorem refGet_num (A : Option Addr) (c : Nat) (l : List UInt8) (w : World) (hr : RdB w A 128 c l) (hm : leN (l.take 2) = 21587) (hc : (on 0#32 (l.take 124)).toNat = leN (l.drop 124)) :
    Calls Try.prog 24 #[.slice A 128 c] w fun e w' => e = .returned (.tuple #[.agg (pickF (frmOf l).right (frmOf l)).cells, .bool (frmOf l).right]) ∧ Below w.heap.size w w' := by
  have hz := zero_frm
  have hbd := bdF_none
  have hbd4 := bdF_four
  have hlen := hr.len
  have hcap := hr.cap
  have hbig := hr.big
  obtain ⟨ad, x2, rfl, _, h2, d2⟩ := hr.get (k := 2) (by omega)
  obtain ⟨_, x3, e3, _, h3, d3⟩ := hr.get (k := 3) (by omega)
  injection e3 with e3; subst e3
  have d2 : w.cell? ⟨ad.block, ad.off + 2, none⟩ = some (.int .u8 (w8 x2)) := d2
  have d3 : w.cell? ⟨ad.block, ad.off + 3, none⟩ = some (.int .u8 (w8 x3)) := d3
  have hlt : ad.block < w.heap.size := cell_lt (a := ⟨ad.block, ad.off + 2, none⟩) d2
  have HR := Lib.hid hr
  have HL := Lib.hid hlen
  clear hr hlen
  have hF : Hid (frmOf l = ⟨w8 x2, w8 x3, wrapN (leN ((l.drop 4).take 4)), wrapN (leN ((l.drop 8).take 8)), (l.drop 16).take 108⟩) := by
    unfold frmOf
    rw [h2.out, h3.out]
    rfl
  clear h2 h3
  have c4 : (4 : Int) ≤ (c : Int) := by omega
  have c8 : (8 : Int) ≤ (c : Int) := by omega
  have c16 : (16 : Int) ≤ (c : Int) := by omega
  have c124 : (124 : Int) ≤ (c : Int) := by omega
  have c2 : (2 : Int) ≤ (c : Int) := by omega
  have wr := wrap_u64_in (w32 (on 0#32 (l.take 124))) (w32_lt _).1 (by have := (w32_lt (on 0#32 (l.take 124))).2; omega)
  have t1 : (((leN (l.take 2) : Nat) : Int) != 21587) = false := by rw [bne_eq_false_iff_eq]; omega
  have t2 : ((w32 (on 0#32 (l.take 124)) : Int) != ((leN (l.drop 124) : Nat) : Int)) = false := by rw [bne_eq_false_iff_eq]; unfold w32; omega
  clear hm hc
  go_enter Try.func24, Try.ntmps24
  go_wp2_with fail
  refine wp_cut (fun w' => Bk w' w.heap.size 38 zeroF.cells ∧ Below w.heap.size w w') ⟨Bk.made w _ _, below_new _ _⟩ ?_
  rintro w1 ⟨hb1, hB1⟩
  have HB1 := Lib.hid hb1
  clear hb1
  have hBig2 := Lib.hid fun t : Ext w1 => ext_of_same (big_any _ 2 c (l.take 2) t.w (((HR.out.upto 2 (by omega)).ext hB1).ext t.below) (by omega))
  have hCrc := Lib.hid fun t : Ext w1 => ext_of_same (refCrc_any _ 124 c (l.take 124) t.w (((HR.out.upto 124 (by omega)).ext hB1).ext t.below))
  have hBig4 := Lib.hid fun t : Ext w1 => ext_of_same (big_any (pastA _ 124 c 1) 4 (c - 124) (l.drop 124) t.w (((HR.out.past' 124 (by omega)).ext hB1).ext t.below) (by omega))
  refine wp_region_ext (by kernel_rfl) (by kernel_rfl) ?_
  repeat (go_big_quiet_step (first
    | (go_at_call 36; with_reducible exact hBig2.out _)
    | (go_at_call 36; with_reducible exact hBig4.out _)
    | (go_at_call 35; with_reducible exact hCrc.out _)))
  refine wpQuiet_nil ?_
  intro _ hw'
  obtain ⟨t, hw''⟩ := hw'
  subst hw''
  have hB2 := hB1.trans (below_le hB1.size t.below)
  have HB2 := Lib.hid (HB1.out.ext t.below)
  generalize t.w = w2 at hB2 HB2
  clear hBig2 hCrc hBig4 HB1 hB1
  go_wp2_with fail
  have FS : Hid (∀ w', Below w2.heap.size w2 w' → (Below w2.heap.size w2 w' ∧ w'.cell? ⟨ad.block, ad.off + 2, none⟩ = some (.int .u8 (w8 x2)) ∧ w'.cell? ⟨ad.block, ad.off + 3, none⟩ = some (.int .u8 (w8 x3)))) := fun w' hb =>
    have hb' := hB2.trans (below_le hB2.size hb)
    ⟨hb, ((bcell hb').1 _ _ hlt).trans d2, ((bcell hb').1 _ _ hlt).trans d3⟩
  clear d2 d3
  have hst := stF_newd w2 zeroF ⟨w8 x2, w8 x3, wrapN (leN ((l.drop 4).take 4)), wrapN (leN ((l.drop 8).take 8)), blank⟩ blank_len blank_len
  have wk4 := wrap_wrapN (leN ((l.drop 4).take 4)) (by have := leN_lt ((l.drop 4).take 4); rw [List.length_take, List.length_drop, HL.out] at this; exact Nat.lt_of_lt_of_le this (by decide))
  have wk8 := wrap_wrapN (leN ((l.drop 8).take 8)) (by have := leN_lt ((l.drop 8).take 8); rw [List.length_take, List.length_drop, HL.out] at this; exact Nat.lt_of_lt_of_le this (by decide))
  have hBr : Below w2.heap.size w2 w2 := Below.refl _ _
  go_region_held3 (fun w' => Below w2.heap.size w2 w' ∧ w'.cell? ⟨ad.block, ad.off + 2, none⟩ = some (.int .u8 (w8 x2)) ∧ w'.cell? ⟨ad.block, ad.off + 3, none⟩ = some (.int .u8 (w8 x3)))
    (first | exact FS.out _ (below_drew1 hBr) | exact FS.out _ (below_drew1 (hBr.alloc (Nat.le_refl _) _)))
    (first | (go_at_call 36; (with_reducible refine (big_any _ 4 _ ((l.drop 4).take 4) _ ?_ ?_).mono ?_); exact (((HR.out.past' 4 (by omega)).upto 4 (by omega)).ext hB2).ext (by first | exact below_drew1 hBr | exact below_drew1 (hBr.alloc (Nat.le_refl _) _)); omega; rintro e wz ⟨rfl, rfl⟩) | (go_at_call 36; (with_reducible refine (big_any _ 8 _ ((l.drop 8).take 8) _ ?_ ?_).mono ?_); exact (((HR.out.past' 8 (by omega)).upto 8 (by omega)).ext hB2).ext (by first | exact below_drew1 hBr | exact below_drew1 (hBr.alloc (Nat.le_refl _) _)); omega; rintro e wz ⟨rfl, rfl⟩))
  all_goals
    clear hst wk4 wk8
    go_wp2_with fail
    go_loopw [42] (fun i wr => ∃ k : Nat, k ≤ 108 ∧ i = .int .i64 k ∧ ∃ D : List UInt8, D.length = 108 ∧ D.take k = (l.drop 16).take k ∧ Hid (Bk wr w2.heap.size 38 (Frm.cells ⟨w8 x2, w8 x3, wrapN (leN ((l.drop 4).take 4)), wrapN (leN ((l.drop 8).take 8)), D⟩)) ∧ Below w2.heap.size w2 wr) (fun i _ => 108 - (intOf i).toNat)
    case atStart => exact ⟨0, by omega, rfl, blank, blank_len, rfl, Lib.hid (Bk.drawn1 (Bk.made w2 _ _)), below_drew1 (below_new w2 _)⟩
    case round =>
      obtain ⟨k, hk, rfl, D, hD, hDk, hbk, hb⟩ := hrel
      by_cases hlt : k < 108
      · have hi : (k : Int) < 108 := by omega
        obtain ⟨_, x, ex, _, hxk, hc⟩ := ((HR.out.ext hB2).ext hb).get (k := 16 + k) (by omega)
        injection ex with ex; subst ex
        obtain ⟨v, hv⟩ : ∃ v, (Frm.cells ⟨w8 x2, w8 x3, wrapN (leN ((l.drop 4).take 4)), wrapN (leN ((l.drop 8).take 8)), D⟩)[4 + k]? = some v := ⟨_, Array.getElem?_eq_getElem (by rw [Frm.size hD]; omega)⟩
        have hcc := (hbk.out.cell (4 + k)).trans hv
        have hf := hbk.out.thaw (4 + k)
        have HD := Lib.hid hD
        have HDk := Lib.hid hDk
        clear hD hDk hv
        go_wp2_with fail
        go_roundw
        case rel =>
          refine ⟨k + 1, by omega, by go_num, D.set k x, by rw [List.length_set, HD.out], ?_, ?_, hb.setCell (by simp) _⟩
          · rw [List.take_add_one, List.take_add_one, List.take_set_of_le (Nat.le_refl _), HDk.out, List.getElem?_set_self (by rw [HD.out]; omega), List.getElem?_drop, hxk.out]
          · rw [← cells_put]
            exact Lib.hid (hbk.out.put _ _)
        case measure => simp [intOf]; omega
      · have hkn : k = 108 := by omega
        subst hkn
        have hDe : D = (l.drop 16).take 108 := by rw [← hDk, List.take_of_length_le (Nat.le_of_eq hD)]
        have hbf : Bk wr w2.heap.size 38 (frmOf l).cells := by rw [hF.out, ← hDe]; exact hbk.out
        have hdl := frmOf_len l HL.out
        have hld := ldF_bk hbf hdl
        have HBF := Lib.hid hbf
        have hz2 := Lib.hid (HB2.out.ext hb)
        have hBw := hB2.trans (below_le hB2.size hb)
        clear hbf hDk hDe hD hbk FS hBr
        cases hrt : (frmOf l).right
        · go_wp2_with fail
          refine (refRight_any (frmOf l) _).mono ?_
          rw [hrt]
          rintro e w5 ⟨rfl, hb5⟩
          have hst := stF_bk w5 w.heap.size zeroF zeroF (hz2.out.ext hb5) blank_len blank_len
          have hB5 := hBw.trans (below_le hBw.size hb5)
          go_wp2
          refine bodyPost_ret (res_frm rfl _ _ w.heap.size zeroF rfl (Bk.row (hz2.out.ext hb5) _) blank_len) rfl ⟨by rw [hrt]; rfl, hB5.grown (grown_row _ _ _) hB5.size (fun k hk => by injection hk with hk; omega)⟩
        · go_wp2_with fail
          refine (refRight_any (frmOf l) _).mono ?_
          rw [hrt]
          rintro e w5 ⟨rfl, hb5⟩
          have hst := stF_bk w5 w.heap.size zeroF (frmOf l) (hz2.out.ext hb5) blank_len hdl
          have hld5 := ldF_bk (HBF.out.ext hb5) hdl
          have hB5 := hBw.trans (below_le hBw.size hb5)
          go_wp2
          refine bodyPost_ret (res_frm rfl _ _ w.heap.size (frmOf l) rfl (Bk.row (hz2.out.ext hb5) _) hdl) rfl ⟨by rw [hrt]; rfl, hB5.grown (grown_row _ _ _) hB5.size (fun k hk => by injection hk with hk; omega)⟩
theorem refGet_any (A : Option Addr) (n c : Nat) (l : List UInt8) (w : World) (hr : RdB w A n c l) :
    Calls Try.prog 24 #[.slice A n c] w fun e w' => e = .returned (.tuple #[.agg (gotF l).cells, .bool (got l)]) ∧ Below w.heap.size w w' := by
  by_cases hn : n = 128
  · subst hn
    have hl : l.length = 128 := hr.len
    by_cases hg : leN (l.take 2) = 21587 ∧ (on 0#32 (l.take 124)).toNat = leN (l.drop 124)
    · have e1 : got l = (frmOf l).right := by rw [← refGot_got]; simp [refGot, hl, hg.1, hg.2]
      have e2 : gotF l = pickF (frmOf l).right (frmOf l) := by unfold gotF pickF; rw [e1]
      rw [e2, e1]
      exact refGet_num A c l w hr hg.1 hg.2
    · have e1 : got l = false := by
        rw [← refGot_got, Bool.eq_false_iff]
        intro h
        unfold refGot at h
        simp only [Bool.and_eq_true, decide_eq_true_eq] at h
        exact hg ⟨h.2.1, h.2.2.1⟩
      rw [gotF_no e1, e1]
      exact refGet_sum A c l w hr hg
  · have hg : got l = false := by
      have : ¬ l.length = 128 := by rw [hr.len]; exact hn
      simp [got, this]
    rw [gotF_no hg, hg]
    exact refGet_len A n c w hn
end Go.Proofs.Ytcggnphoekmoaaa
