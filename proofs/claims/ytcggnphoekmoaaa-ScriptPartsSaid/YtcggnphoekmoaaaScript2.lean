/-
  The walk of script.Decode.
-/
import Derived.Test.YtcggnphoekmoaaaScript
namespace Go.Proofs.Ytcggnphoekmoaaa
open Go.RowKit
attribute [local go_sem] w8_nn w8_256 wrap_i64_w8 wrap64_w8

set_option maxRecDepth 100000 in
set_option maxHeartbeats 1000000 in
theorem decode_any (A : Option Addr) (n c : Nat) (l : List UInt8) (w : World) (hr : RdB w A n c l) (hsmall : n ≤ 1000000) :
    Calls Try.prog 12 #[.slice A n c] w fun e w' => ∃ A' N c', e = .returned (.slice A' N c') ∧ OwnS w' w.heap.size A' N c' (stepsOf l) ∧ Below w.heap.size w w' := by
  obtain ⟨ii, hi0, hz0, hs0, hb0⟩ := info_parts info_step
  go_enter Try.func12, Try.ntmps12
  go_wp2_with fail
  go_loopw [0, 3] (fun b o wr => ∃ (A1 A2 : Option Addr) (n1 c1 N c2 : Nat) (r : List UInt8) (pre : List Stp), b = .slice A1 n1 c1 ∧ o = .slice A2 N c2 ∧ n1 + N ≤ n ∧ RdB w A1 n1 c1 r ∧ Hid (OwnS wr w.heap.size A2 N c2 pre) ∧
    Hid (stepsOf l = pre ++ stepsOf r) ∧ Below w.heap.size w wr ∧ w.heap.size ≤ wr.heap.size) (fun b _ _ => match b with | .slice _ k _ => k | _ => 0)
  case atStart => exact ⟨A, none, n, c, 0, 0, l, [], rfl, rfl, by omega, hr, OwnS.nil _ _, rfl, Below.refl _ _, Nat.le_refl _⟩
  case round =>
    obtain ⟨A1, A2, n1, c1, N, c2, r, pre, rfl, rfl, hnN, hrd, hown, heq, hbel, hsz⟩ := hrel
    have hcap := hrd.cap
    have hbig := hrd.big
    by_cases h4 : 4 ≤ n1
    · obtain ⟨k, nn, m, o, r', rfl⟩ : ∃ k nn m o r', r = k :: nn :: m :: o :: r' := by
        have := hrd.len
        match r, this with
        | k :: nn :: m :: o :: r', _ => exact ⟨k, nn, m, o, r', rfl⟩
        | [], h => simp at h; omega
        | [_], h => simp at h; omega
        | [_, _], h => simp at h; omega
        | [_, _, _], h => simp at h; omega
      obtain ⟨ad, x0, rfl, _, hx0, hc0⟩ := (hrd.ext hbel).get (k := 0) (by omega)
      obtain ⟨_, x1, e1, _, hx1, hc1⟩ := (hrd.ext hbel).get (k := 1) (by omega)
      obtain ⟨_, x2, e2, _, hx2, hc2⟩ := (hrd.ext hbel).get (k := 2) (by omega)
      obtain ⟨_, x3, e3, _, hx3, hc3⟩ := (hrd.ext hbel).get (k := 3) (by omega)
      injection e1 with e1; subst e1
      injection e2 with e2; subst e2
      injection e3 with e3; subst e3
      have q0 := hx0.out; injection q0 with q0; subst q0
      have q1 := hx1.out; injection q1 with q1; subst q1
      have q2 := hx2.out; injection q2 with q2; subst q2
      have q3 := hx3.out; injection q3 with q3; subst q3
      clear hx0 hx1 hx2 hx3
      rw [show ad.add 0 = ad from by simp [Addr.add]] at hc0
      have hc1 : wr.cell? ⟨ad.block, ad.off + 1, none⟩ = some (.int .u8 (w8 nn)) := hc1
      have hc2 : wr.cell? ⟨ad.block, ad.off + 2, none⟩ = some (.int .u8 (w8 m)) := hc2
      have hc3 : wr.cell? ⟨ad.block, ad.off + 3, none⟩ = some (.int .u8 (w8 o)) := hc3
      have hi : (4 : Int) ≤ n1 := by omega
      have i0 : 0 < n1 := by omega
      have i1 : (1 : Int) < n1 := by omega
      have i2 : (2 : Int) < n1 := by omega
      have i3 : (3 : Int) < n1 := by omega
      have hrd4 := Lib.hid (hrd.past 4 (by omega))
      have Hrd := Lib.hid hrd
      clear hrd
      have b0 := w8_lt k
      have b1 := w8_lt nn
      have b2 := w8_lt m
      have b3 := w8_lt o
      have hk9 : k.toNat % 9 < 9 := Nat.mod_lt _ (by omega)
      have hmod : w8 k % 9 = ((k.toNat % 9 : Nat) : Int) := by unfold w8; omega
      have hst := stepsOf_cons k nn m o r'
      generalize hq : k.toNat % 9 = q at hk9 hmod
      have Hst := Lib.hid hst
      have Hq := Lib.hid hq
      clear hst hq
      rcases (show q = 0 ∨ q = 1 ∨ q = 2 ∨ q = 3 ∨ q = 4 ∨ q = 5 ∨ q = 6 ∨ q = 7 ∨ q = 8 by omega) with rfl | rfl | rfl | rfl | rfl | rfl | rfl | rfl | rfl
      · have es : stepOf k nn m o r' = (⟨1, w8 nn % 4, 0, 0, 0, 0#32, [], r'.take m.toNat⟩, r'.drop m.toNat) := by unfold stepOf; rw [Hq.out]; rfl
        have Es := Lib.hid es
        clear es
        go_wp2_with fail
        go_quiet (fail)
        have HO := Lib.hid (hown.out.drawn nq)
        have HB := below_drawn hbel nq
        have hs : w.heap.size ≤ (wr.drewN nq).heap.size := hsz
        clear hc0 hc1 hc2 hc3
        generalize wr.drewN nq = wq at *
        clear hown hbel hsz
        obtain ⟨A5, hA5⟩ : ∃ A5, (if c1 = 4 then some ad else some (⟨ad.block, ad.off + 4, none⟩ : Addr)) = A5 := ⟨_, rfl⟩
        have hrd5 : RdB w A5 (n1 - 4) (c1 - 4) r' := by rw [← hA5]; exact hrd4.out
        obtain ⟨mm, hmin, hm1, hm2, hm3⟩ : ∃ mm : Nat, (if ((n1 - 4 : Nat) : Int) < w8 m then ((n1 - 4 : Nat) : Int) else w8 m) = (mm : Int) ∧ mm ≤ n1 - 4 ∧ Hid (r'.take m.toNat = r'.take mm) ∧ Hid (r'.drop m.toNat = r'.drop mm) := by
          have hl := hrd5.len
          by_cases hlt : ((n1 - 4 : Nat) : Int) < w8 m
          · have : n1 - 4 < m.toNat := by unfold w8 at hlt; omega
            exact ⟨n1 - 4, by rw [if_pos hlt], Nat.le_refl _, by show _ = _; rw [List.take_of_length_le (by omega), List.take_of_length_le (by omega)], by show _ = _; rw [List.drop_of_length_le (by omega), List.drop_of_length_le (by omega)]⟩
          · exact ⟨m.toNat, by rw [if_neg hlt]; rfl, by unfold w8 at hlt; omega, rfl, rfl⟩
        have hmc : mm ≤ c1 - 4 := by omega
        have HX := Lib.hid (Bk.made wq 29 #[.int .i64 1, .int .i64 0, .int .i64 0, .int .i64 0, .int .i64 0, .int .u32 0, .slice none 0 0, .slice none 0 0])
        obtain ⟨A7, hA7⟩ : ∃ A7, (if c1 - 4 = mm then A5 else Option.map (fun x => x.add mm) A5) = A7 := ⟨_, rfl⟩
        have HR7 : Hid (RdB w A7 (n1 - 4 - mm) (c1 - 4 - mm) (r'.drop mm)) := by rw [← hA7]; exact hrd5.past mm hm1
        have HR5 := Lib.hid hrd5
        clear hrd5
        go_wp2_with fail
        go_region_with (go_at_call 26; refine (clone_any _ _ _ _ _ ((HR5.out.upto mm hm1).ext (below_drew1 (HB.alloc hs _))) (by omega)).mono ?_; rintro e wc ⟨A6, c6, rfl, ⟨hr6, hfar⟩, hb6⟩; have Hbk := Lib.hid (Bk.ext (w := (wq.alloc _).drew) HX.out hb6); have hx1 := Hbk.out.cell 1; have hx7 := Hbk.out.cell 7; have hf1 := Hbk.out.thaw 1; have hf7 := Hbk.out.thaw 7; have Hr6 := Lib.hid hr6; have Hfar := Lib.hid hfar; clear hr6 hfar)
        have HBc : Below wq.heap.size wq wc := (below_drew1 (below_new wq _)).trans (hb6.mono (by simp))
        have HBz : Below wq.heap.size wq ((wc.setCell ⟨wq.heap.size, 1, none⟩ (.int .i64 (w8 nn % 4))).setCell ⟨wq.heap.size, 7, none⟩ (.slice A6 mm c6)) := (HBc.setCell (Nat.le_refl _) _).setCell (Nat.le_refl _) _
        have hne : ∀ (i : Nat), ∀ ad, A6 = some ad → ad.block ≠ (⟨wq.heap.size, i, none⟩ : Addr).block := fun i ad e hbk => by
          have h1 := Hfar.out ad e
          have h2 : (wq.alloc (.cells #[.int .i64 1, .int .i64 0, .int .i64 0, .int .i64 0, .int .i64 0, .int .u32 0, .slice none 0 0, .slice none 0 0] 29)).drew.heap.size = wq.heap.size + 1 := by simp
          rw [h2] at h1
          simp at hbk
          omega
        have Hrz : Hid (RdB ((wc.setCell ⟨wq.heap.size, 1, none⟩ (.int .i64 (w8 nn % 4))).setCell ⟨wq.heap.size, 7, none⟩ (.slice A6 mm c6)) A6 mm c6 (r'.take mm)) := Rd.setFar (Rd.setFar (xs := bvs (r'.take mm)) Hr6.out _ _ (hne 1)) _ _ (hne 7)
        have Hbz : Hid (Bk ((wc.setCell ⟨wq.heap.size, 1, none⟩ (.int .i64 (w8 nn % 4))).setCell ⟨wq.heap.size, 7, none⟩ (.slice A6 mm c6)) wq.heap.size 29 #[.int .i64 1, .int .i64 (w8 nn % 4), .int .i64 0, .int .i64 0, .int .i64 0, .int .u32 0, .slice none 0 0, .slice A6 mm c6]) := (Hbk.out.put 1 _).put 7 _
        have hBz : wq.heap.size ≤ ((wc.setCell ⟨wq.heap.size, 1, none⟩ (.int .i64 (w8 nn % 4))).setCell ⟨wq.heap.size, 7, none⟩ (.slice A6 mm c6)).heap.size := HBz.size
        have Hown := Lib.hid (HO.out.ext HBz)
        have HBw := HB.trans (HBz.mono hs)
        have hClear : Hid (Clear (Value.slice A2 N c2).ownBlock A6 mm) := fun _ ad e he => by
          obtain ⟨rows, _, hrow, _⟩ := HO.out
          have h1 := (World.ownsRow.lt hrow _ he.symm).2
          have h2 := Hfar.out ad e
          have h3 : (wq.alloc (.cells #[.int .i64 1, .int .i64 0, .int .i64 0, .int .i64 0, .int .i64 0, .int .u32 0, .slice none 0 0, .slice none 0 0] 29)).drew.heap.size = wq.heap.size + 1 := by simp
          rw [h3] at h2
          omega
        have hx0 := Hbk.out.cell 0
        have hx2 := Hbk.out.cell 2
        have hx3 := Hbk.out.cell 3
        have hx4 := Hbk.out.cell 4
        have hx5 := Hbk.out.cell 5
        have hx6 := Hbk.out.cell 6
        have HBz := Lib.hid HBz
        have hBw := Lib.hid HBw
        have hBzs := Lib.hid hBz
        clear Hr6 Hbk hb6 HBc HO Hfar hne hBz HBw
        obtain ⟨rows, hmap, hrow, hok⟩ := Hown.out
        have Hmap := Lib.hid hmap
        have Hok := Lib.hid hok
        have Hrow := Lib.hid hrow
        clear hmap hok hrow Hown
        go_wp2_with (at_builtin; refine wpList_append_gen rfl (.tmp 84) (.tmp 86) 22 rfl 29 ii _ 8 96 Try.underlying22 hi0 hz0 hs0 hb0 rfl (by omega) w.heap.size w _ N (rows.flatMap SRow.cells) rfl (World.ownsRow.alloc Hrow.out _) ⟨wc.heap.size, 0, none⟩ 1 1 (SRow.cells ⟨⟨1, w8 nn % 4, 0, 0, 0, 0#32, [], r'.take mm⟩, none, 0, 0, A6, mm, c6⟩) rfl rfl ?_ (SRow.one _) (by unfold maxLen; omega) (by omega) (hBw.out.alloc hBw.out.size _) (by have := hBw.out.size; simp; simp at this; omega) ?_; exact cells_new _ _ _ _ _ rfl _ (by simp); intro A3 c3 w3 hown3 hg3 hat3 hb3 hB3)
        go_roundw
        case rel =>
          refine ⟨A7, A3, n1 - 4 - mm, c1 - 4 - mm, N + 1, c3, r'.drop mm, pre ++ [⟨1, w8 nn % 4, 0, 0, 0, 0#32, [], r'.take mm⟩], rfl, rfl, by omega, HR7.out, ?_, ?_, hb3, hB3⟩
          · exact OwnS.push Hmap.out (fun r hr => (Hok.out r hr).ext (below_new _ _)) _ (SRow.withBytes _ (Hrz.out.ext (below_new _ _)) rfl hClear.out) hown3.out hg3.out hat3.out
          · show stepsOf l = _
            rw [heq.out, Hst.out, Es.out, hm2.out, hm3.out, List.append_assoc]; rfl
        case measure =>
          show n1 - 4 - mm < n1
          omega
      · have es : stepOf k nn m o r' = (⟨2, 0, 0, 0, 0, 0#32, [], []⟩, r') := by unfold stepOf; rw [Hq.out]; rfl
        have Es := Lib.hid es
        clear es
        go_wp2_with fail
        go_quiet (fail)
        have HO := Lib.hid (hown.out.drawn nq)
        have HB := below_drawn hbel nq
        have hs : w.heap.size ≤ (wr.drewN nq).heap.size := hsz
        clear hc0 hc1 hc2 hc3
        generalize wr.drewN nq = wq at *
        clear hown hbel hsz
        obtain ⟨rows, hmap, hrow, hok⟩ := HO.out
        have Hmap := Lib.hid hmap
        have Hok := Lib.hid hok
        have Hrow := Lib.hid hrow
        clear hmap hok hrow HO
        go_wp2_with (at_builtin; refine wpList_append_gen rfl (.tmp 84) (.tmp 86) 22 rfl 29 ii _ 8 96 Try.underlying22 hi0 hz0 hs0 hb0 rfl (by omega) w.heap.size w _ N (rows.flatMap SRow.cells) rfl (World.ownsRow.alloc (World.ownsRow.alloc Hrow.out _) _) ⟨wq.heap.size + 1, 0, none⟩ 1 1 (SRow.cells ⟨⟨2, 0, 0, 0, 0, 0#32, [], []⟩, none, 0, 0, none, 0, 0⟩) rfl rfl ?_ (SRow.one _) (by unfold maxLen; omega) (by omega) ((HB.alloc hs _).alloc (by simp; omega) _) (by simp; omega) ?_; exact cells_new _ _ _ _ _ rfl _ (by simp); intro A3 c3 w3 hown3 hg3 hat3 hb3 hB3)
        go_roundw
        case rel =>
          refine ⟨_, A3, n1 - 4, c1 - 4, N + 1, c3, r', pre ++ [⟨2, 0, 0, 0, 0, 0#32, [], []⟩], rfl, rfl, by omega, hrd4.out, ?_, ?_, hb3, hB3⟩
          · exact OwnS.push Hmap.out (fun r hr => ((Hok.out r hr).ext (below_new _ _)).ext (below_new _ _)) _ (SRow.bare _ _ _ rfl rfl) hown3.out hg3.out hat3.out
          · show stepsOf l = _
            rw [heq.out, Hst.out, Es.out, List.append_assoc]; rfl
        case measure =>
          show n1 - 4 < n1
          omega
      · have es : stepOf k nn m o r' = (⟨3, 0, 0, 0, 0, 0#32, [], []⟩, r') := by unfold stepOf; rw [Hq.out]; rfl
        have Es := Lib.hid es
        clear es
        go_wp2_with fail
        go_quiet (fail)
        have HO := Lib.hid (hown.out.drawn nq)
        have HB := below_drawn hbel nq
        have hs : w.heap.size ≤ (wr.drewN nq).heap.size := hsz
        clear hc0 hc1 hc2 hc3
        generalize wr.drewN nq = wq at *
        clear hown hbel hsz
        obtain ⟨rows, hmap, hrow, hok⟩ := HO.out
        have Hmap := Lib.hid hmap
        have Hok := Lib.hid hok
        have Hrow := Lib.hid hrow
        clear hmap hok hrow HO
        go_wp2_with (at_builtin; refine wpList_append_gen rfl (.tmp 84) (.tmp 86) 22 rfl 29 ii _ 8 96 Try.underlying22 hi0 hz0 hs0 hb0 rfl (by omega) w.heap.size w _ N (rows.flatMap SRow.cells) rfl (World.ownsRow.alloc (World.ownsRow.alloc Hrow.out _) _) ⟨wq.heap.size + 1, 0, none⟩ 1 1 (SRow.cells ⟨⟨3, 0, 0, 0, 0, 0#32, [], []⟩, none, 0, 0, none, 0, 0⟩) rfl rfl ?_ (SRow.one _) (by unfold maxLen; omega) (by omega) ((HB.alloc hs _).alloc (by simp; omega) _) (by simp; omega) ?_; exact cells_new _ _ _ _ _ rfl _ (by simp); intro A3 c3 w3 hown3 hg3 hat3 hb3 hB3)
        go_roundw
        case rel =>
          refine ⟨_, A3, n1 - 4, c1 - 4, N + 1, c3, r', pre ++ [⟨3, 0, 0, 0, 0, 0#32, [], []⟩], rfl, rfl, by omega, hrd4.out, ?_, ?_, hb3, hB3⟩
          · exact OwnS.push Hmap.out (fun r hr => ((Hok.out r hr).ext (below_new _ _)).ext (below_new _ _)) _ (SRow.bare _ _ _ rfl rfl) hown3.out hg3.out hat3.out
          · show stepsOf l = _
            rw [heq.out, Hst.out, Es.out, List.append_assoc]; rfl
        case measure =>
          show n1 - 4 < n1
          omega
      · have es : stepOf k nn m o r' = (⟨4, 0, 0, 0, 0, 0#32, [], []⟩, r') := by unfold stepOf; rw [Hq.out]; rfl
        have Es := Lib.hid es
        clear es
        go_wp2_with fail
        go_quiet (fail)
        have HO := Lib.hid (hown.out.drawn nq)
        have HB := below_drawn hbel nq
        have hs : w.heap.size ≤ (wr.drewN nq).heap.size := hsz
        clear hc0 hc1 hc2 hc3
        generalize wr.drewN nq = wq at *
        clear hown hbel hsz
        obtain ⟨rows, hmap, hrow, hok⟩ := HO.out
        have Hmap := Lib.hid hmap
        have Hok := Lib.hid hok
        have Hrow := Lib.hid hrow
        clear hmap hok hrow HO
        go_wp2_with (at_builtin; refine wpList_append_gen rfl (.tmp 84) (.tmp 86) 22 rfl 29 ii _ 8 96 Try.underlying22 hi0 hz0 hs0 hb0 rfl (by omega) w.heap.size w _ N (rows.flatMap SRow.cells) rfl (World.ownsRow.alloc (World.ownsRow.alloc Hrow.out _) _) ⟨wq.heap.size + 1, 0, none⟩ 1 1 (SRow.cells ⟨⟨4, 0, 0, 0, 0, 0#32, [], []⟩, none, 0, 0, none, 0, 0⟩) rfl rfl ?_ (SRow.one _) (by unfold maxLen; omega) (by omega) ((HB.alloc hs _).alloc (by simp; omega) _) (by simp; omega) ?_; exact cells_new _ _ _ _ _ rfl _ (by simp); intro A3 c3 w3 hown3 hg3 hat3 hb3 hB3)
        go_roundw
        case rel =>
          refine ⟨_, A3, n1 - 4, c1 - 4, N + 1, c3, r', pre ++ [⟨4, 0, 0, 0, 0, 0#32, [], []⟩], rfl, rfl, by omega, hrd4.out, ?_, ?_, hb3, hB3⟩
          · exact OwnS.push Hmap.out (fun r hr => ((Hok.out r hr).ext (below_new _ _)).ext (below_new _ _)) _ (SRow.bare _ _ _ rfl rfl) hown3.out hg3.out hat3.out
          · show stepsOf l = _
            rw [heq.out, Hst.out, Es.out, List.append_assoc]; rfl
        case measure =>
          show n1 - 4 < n1
          omega
      · have es : stepOf k nn m o r' = (⟨5, 0, w8 nn, 0, 0, 0#32, [], []⟩, r') := by unfold stepOf; rw [Hq.out]; rfl
        have Es := Lib.hid es
        clear es
        go_wp2_with fail
        go_quiet (fail)
        have HO := Lib.hid (hown.out.drawn nq)
        have HB := below_drawn hbel nq
        have hs : w.heap.size ≤ (wr.drewN nq).heap.size := hsz
        clear hc0 hc1 hc2 hc3
        generalize wr.drewN nq = wq at *
        clear hown hbel hsz
        obtain ⟨rows, hmap, hrow, hok⟩ := HO.out
        have Hmap := Lib.hid hmap
        have Hok := Lib.hid hok
        have Hrow := Lib.hid hrow
        clear hmap hok hrow HO
        go_wp2_with (at_builtin; refine wpList_append_gen rfl (.tmp 84) (.tmp 86) 22 rfl 29 ii _ 8 96 Try.underlying22 hi0 hz0 hs0 hb0 rfl (by omega) w.heap.size w _ N (rows.flatMap SRow.cells) rfl (World.ownsRow.alloc (World.ownsRow.alloc Hrow.out _) _) ⟨wq.heap.size + 1, 0, none⟩ 1 1 (SRow.cells ⟨⟨5, 0, w8 nn, 0, 0, 0#32, [], []⟩, none, 0, 0, none, 0, 0⟩) rfl rfl ?_ (SRow.one _) (by unfold maxLen; omega) (by omega) ((HB.alloc hs _).alloc (by simp; omega) _) (by simp; omega) ?_; exact cells_new _ _ _ _ _ rfl _ (by simp); intro A3 c3 w3 hown3 hg3 hat3 hb3 hB3)
        go_roundw
        case rel =>
          refine ⟨_, A3, n1 - 4, c1 - 4, N + 1, c3, r', pre ++ [⟨5, 0, w8 nn, 0, 0, 0#32, [], []⟩], rfl, rfl, by omega, hrd4.out, ?_, ?_, hb3, hB3⟩
          · exact OwnS.push Hmap.out (fun r hr => ((Hok.out r hr).ext (below_new _ _)).ext (below_new _ _)) _ (SRow.bare _ _ _ rfl rfl) hown3.out hg3.out hat3.out
          · show stepsOf l = _
            rw [heq.out, Hst.out, Es.out, List.append_assoc]; rfl
        case measure =>
          show n1 - 4 < n1
          omega
      · have es : stepOf k nn m o r' = (⟨6, 0, 0, 0, 0, 0#32, [w8 nn, w8 m, w8 o], []⟩, r') := by unfold stepOf; rw [Hq.out]; rfl
        have Es := Lib.hid es
        clear es
        go_wp2_with fail
        go_quiet (fail)
        have HO := Lib.hid (hown.out.drawn nq)
        have HB := below_drawn hbel nq
        have hs : w.heap.size ≤ (wr.drewN nq).heap.size := hsz
        clear hc0 hc1 hc2 hc3
        generalize wr.drewN nq = wq at *
        clear hown hbel hsz
        obtain ⟨rows, hmap, hrow, hok⟩ := HO.out
        have Hmap := Lib.hid hmap
        have Hok := Lib.hid hok
        have Hrow := Lib.hid hrow
        clear hmap hok hrow HO
        go_wp2_with (at_builtin; refine wpList_append_gen rfl (.tmp 84) (.tmp 86) 22 rfl 29 ii _ 8 96 Try.underlying22 hi0 hz0 hs0 hb0 rfl (by omega) w.heap.size w _ N (rows.flatMap SRow.cells) rfl (World.ownsRow.alloc (World.ownsRow.alloc (World.ownsRow.alloc Hrow.out _) _) _) ⟨wq.heap.size + 1 + 1, 0, none⟩ 1 1 (SRow.cells ⟨⟨6, 0, 0, 0, 0, 0#32, [w8 nn, w8 m, w8 o], []⟩, some ⟨wq.heap.size + 1, 0, none⟩, 3, 3, none, 0, 0⟩) rfl rfl ?_ (SRow.one _) (by unfold maxLen; omega) (by omega) (((HB.alloc hs _).alloc (by simp; omega) _).alloc (by simp; omega) _) (by simp; omega) ?_; exact cells_new _ _ _ _ _ rfl _ (by simp); intro A3 c3 w3 hown3 hg3 hat3 hb3 hB3)
        go_roundw
        case rel =>
          refine ⟨_, A3, n1 - 4, c1 - 4, N + 1, c3, r', pre ++ [⟨6, 0, 0, 0, 0, 0#32, [w8 nn, w8 m, w8 o], []⟩], rfl, rfl, by omega, hrd4.out, ?_, ?_, hb3, hB3⟩
          · refine OwnS.push Hmap.out (fun r hr => (((Hok.out r hr).ext (below_new _ _)).ext (below_new _ _)).ext (below_new _ _)) _ (SRow.withBits _ _ _ _ (t := 50) (Bk.alloc (bk_made' _ _ _ _ (by simp)) _) rfl rfl ?_) hown3.out hg3.out hat3.out
            intro e
            have := (World.ownsRow.lt Hrow.out _ e.symm).2
            omega
          · show stepsOf l = _
            rw [heq.out, Hst.out, Es.out, List.append_assoc]; rfl
        case measure =>
          show n1 - 4 < n1
          omega
      · have es : stepOf k nn m o r' = (⟨7, 0, w8 nn % 8, 0, 0, 0#32, [], []⟩, r') := by unfold stepOf; rw [Hq.out]; rfl
        have Es := Lib.hid es
        clear es
        go_wp2_with fail
        go_quiet (fail)
        have HO := Lib.hid (hown.out.drawn nq)
        have HB := below_drawn hbel nq
        have hs : w.heap.size ≤ (wr.drewN nq).heap.size := hsz
        clear hc0 hc1 hc2 hc3
        generalize wr.drewN nq = wq at *
        clear hown hbel hsz
        obtain ⟨rows, hmap, hrow, hok⟩ := HO.out
        have Hmap := Lib.hid hmap
        have Hok := Lib.hid hok
        have Hrow := Lib.hid hrow
        clear hmap hok hrow HO
        go_wp2_with (at_builtin; refine wpList_append_gen rfl (.tmp 84) (.tmp 86) 22 rfl 29 ii _ 8 96 Try.underlying22 hi0 hz0 hs0 hb0 rfl (by omega) w.heap.size w _ N (rows.flatMap SRow.cells) rfl (World.ownsRow.alloc (World.ownsRow.alloc Hrow.out _) _) ⟨wq.heap.size + 1, 0, none⟩ 1 1 (SRow.cells ⟨⟨7, 0, w8 nn % 8, 0, 0, 0#32, [], []⟩, none, 0, 0, none, 0, 0⟩) rfl rfl ?_ (SRow.one _) (by unfold maxLen; omega) (by omega) ((HB.alloc hs _).alloc (by simp; omega) _) (by simp; omega) ?_; exact cells_new _ _ _ _ _ rfl _ (by simp); intro A3 c3 w3 hown3 hg3 hat3 hb3 hB3)
        go_roundw
        case rel =>
          refine ⟨_, A3, n1 - 4, c1 - 4, N + 1, c3, r', pre ++ [⟨7, 0, w8 nn % 8, 0, 0, 0#32, [], []⟩], rfl, rfl, by omega, hrd4.out, ?_, ?_, hb3, hB3⟩
          · exact OwnS.push Hmap.out (fun r hr => ((Hok.out r hr).ext (below_new _ _)).ext (below_new _ _)) _ (SRow.bare _ _ _ rfl rfl) hown3.out hg3.out hat3.out
          · show stepsOf l = _
            rw [heq.out, Hst.out, Es.out, List.append_assoc]; rfl
        case measure =>
          show n1 - 4 < n1
          omega
      · have es : stepOf k nn m o r' = (⟨8, 0, w8 nn % 8, 0, 0, 0#32, [], []⟩, r') := by unfold stepOf; rw [Hq.out]; rfl
        have Es := Lib.hid es
        clear es
        go_wp2_with fail
        go_quiet (fail)
        have HO := Lib.hid (hown.out.drawn nq)
        have HB := below_drawn hbel nq
        have hs : w.heap.size ≤ (wr.drewN nq).heap.size := hsz
        clear hc0 hc1 hc2 hc3
        generalize wr.drewN nq = wq at *
        clear hown hbel hsz
        obtain ⟨rows, hmap, hrow, hok⟩ := HO.out
        have Hmap := Lib.hid hmap
        have Hok := Lib.hid hok
        have Hrow := Lib.hid hrow
        clear hmap hok hrow HO
        go_wp2_with (at_builtin; refine wpList_append_gen rfl (.tmp 84) (.tmp 86) 22 rfl 29 ii _ 8 96 Try.underlying22 hi0 hz0 hs0 hb0 rfl (by omega) w.heap.size w _ N (rows.flatMap SRow.cells) rfl (World.ownsRow.alloc (World.ownsRow.alloc Hrow.out _) _) ⟨wq.heap.size + 1, 0, none⟩ 1 1 (SRow.cells ⟨⟨8, 0, w8 nn % 8, 0, 0, 0#32, [], []⟩, none, 0, 0, none, 0, 0⟩) rfl rfl ?_ (SRow.one _) (by unfold maxLen; omega) (by omega) ((HB.alloc hs _).alloc (by simp; omega) _) (by simp; omega) ?_; exact cells_new _ _ _ _ _ rfl _ (by simp); intro A3 c3 w3 hown3 hg3 hat3 hb3 hB3)
        go_roundw
        case rel =>
          refine ⟨_, A3, n1 - 4, c1 - 4, N + 1, c3, r', pre ++ [⟨8, 0, w8 nn % 8, 0, 0, 0#32, [], []⟩], rfl, rfl, by omega, hrd4.out, ?_, ?_, hb3, hB3⟩
          · exact OwnS.push Hmap.out (fun r hr => ((Hok.out r hr).ext (below_new _ _)).ext (below_new _ _)) _ (SRow.bare _ _ _ rfl rfl) hown3.out hg3.out hat3.out
          · show stepsOf l = _
            rw [heq.out, Hst.out, Es.out, List.append_assoc]; rfl
        case measure =>
          show n1 - 4 < n1
          omega
      · have es : stepOf k nn m o r' = (⟨9, 0, w8 nn % 8, w8 m, w8 o % 125, BitVec.ofNat 32 (k.toNat + 1), [], []⟩, r') := by unfold stepOf; rw [Hq.out]; rfl
        have Es := Lib.hid es
        clear es
        have hX : w8 k + 1 = w32 (BitVec.ofNat 32 (k.toNat + 1)) := by unfold w8 w32; rw [BitVec.toNat_ofNat]; have := k.toNat_lt; omega
        go_wp2_with fail
        go_quiet (fail)
        have HO := Lib.hid (hown.out.drawn nq)
        have HB := below_drawn hbel nq
        have hs : w.heap.size ≤ (wr.drewN nq).heap.size := hsz
        clear hc0 hc1 hc2 hc3
        generalize wr.drewN nq = wq at *
        clear hown hbel hsz
        obtain ⟨rows, hmap, hrow, hok⟩ := HO.out
        have Hmap := Lib.hid hmap
        have Hok := Lib.hid hok
        have Hrow := Lib.hid hrow
        clear hmap hok hrow HO
        go_wp2_with (at_builtin; refine wpList_append_gen rfl (.tmp 84) (.tmp 86) 22 rfl 29 ii _ 8 96 Try.underlying22 hi0 hz0 hs0 hb0 rfl (by omega) w.heap.size w _ N (rows.flatMap SRow.cells) rfl (World.ownsRow.alloc (World.ownsRow.alloc Hrow.out _) _) ⟨wq.heap.size + 1, 0, none⟩ 1 1 (SRow.cells ⟨⟨9, 0, w8 nn % 8, w8 m, w8 o % 125, BitVec.ofNat 32 (k.toNat + 1), [], []⟩, none, 0, 0, none, 0, 0⟩) rfl rfl ?_ (SRow.one _) (by unfold maxLen; omega) (by omega) ((HB.alloc hs _).alloc (by simp; omega) _) (by simp; omega) ?_; exact cells_new _ _ _ _ _ rfl _ (by simp); intro A3 c3 w3 hown3 hg3 hat3 hb3 hB3)
        go_roundw
        case rel =>
          refine ⟨_, A3, n1 - 4, c1 - 4, N + 1, c3, r', pre ++ [⟨9, 0, w8 nn % 8, w8 m, w8 o % 125, BitVec.ofNat 32 (k.toNat + 1), [], []⟩], rfl, rfl, by omega, hrd4.out, ?_, ?_, hb3, hB3⟩
          · exact OwnS.push Hmap.out (fun r hr => ((Hok.out r hr).ext (below_new _ _)).ext (below_new _ _)) _ (SRow.bare _ _ _ rfl rfl) hown3.out hg3.out hat3.out
          · show stepsOf l = _
            rw [heq.out, Hst.out, Es.out, List.append_assoc]; rfl
        case measure =>
          show n1 - 4 < n1
          omega
    · have h0 : ¬ (4 : Int) ≤ n1 := by omega
      have hst := stepsOf_short r (by rw [hrd.len]; omega)
      have Hst := Lib.hid hst
      clear hst hrd
      go_wp2_with fail
      go_ret
      refine ⟨A2, N, c2, rfl, ?_, hbel⟩
      have e := heq.out
      rw [Hst.out, List.append_nil] at e
      rw [e]
      exact hown.out
end Go.Proofs.Ytcggnphoekmoaaa
