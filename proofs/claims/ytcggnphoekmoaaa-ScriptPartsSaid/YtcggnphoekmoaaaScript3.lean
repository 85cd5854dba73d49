/-
  The walk of the document's own Decode.
-/
import Derived.Test.YtcggnphoekmoaaaScript
namespace Go.Proofs.Ytcggnphoekmoaaa
open Go.RowKit
attribute [local go_sem] w8_nn w8_256 wrap_i64_w8 wrap64_w8

set_option maxRecDepth 100000 in
set_option maxHeartbeats 1000000 in
theorem refDecode_any (A : Option Addr) (n c : Nat) (l : List UInt8) (w : World) (hr : RdB w A n c l) (hsmall : n ≤ 1000000) :
    Calls Try.prog 15 #[.slice A n c] w fun e w' => ∃ A' N c', e = .returned (.slice A' N c') ∧ OwnS w' w.heap.size A' N c' (stepsOf l) ∧ Below w.heap.size w w' := by
  obtain ⟨ii, hi0, hz0, hs0, hb0⟩ := info_parts info_step
  have hl := Lib.hid hr.len
  have hcap := hr.cap
  have hbig := hr.big
  go_enter Try.func15, Try.ntmps15
  go_wp2_with fail
  go_loopw [3, 4] (fun o i wr => ∃ (A2 : Option Addr) (p N c2 : Nat) (pre : List Stp), o = .slice A2 N c2 ∧ i = .int .i64 p ∧ p ≤ n ∧ N ≤ p ∧ Hid (OwnS wr w.heap.size A2 N c2 pre) ∧
    Hid (stepsOf l = pre ++ stepsOf (l.drop p)) ∧ Below w.heap.size w wr ∧ w.heap.size ≤ wr.heap.size) (fun _ i _ => n - (intOf i).toNat)
  case atStart => exact ⟨none, 0, 0, 0, [], rfl, rfl, Nat.zero_le _, Nat.zero_le _, OwnS.nil _ _, rfl, Below.refl _ _, Nat.le_refl _⟩
  case round =>
    obtain ⟨A2, p, N, c2, pre, rfl, rfl, hp, hNp, hown, heq, hbel, hsz⟩ := hrel
    by_cases h4 : p + 4 ≤ n
    · have hlp : (l.drop p).length = n - p := by rw [List.length_drop, hl.out]
      obtain ⟨k, nn, m, o, r', hr5⟩ : ∃ k nn m o r', l.drop p = k :: nn :: m :: o :: r' := by
        match h : l.drop p with
        | k :: nn :: m :: o :: r' => exact ⟨k, nn, m, o, r', rfl⟩
        | [] => rw [h] at hlp; simp at hlp; omega
        | [_] => rw [h] at hlp; simp at hlp; omega
        | [_, _] => rw [h] at hlp; simp at hlp; omega
        | [_, _, _] => rw [h] at hlp; simp at hlp; omega
      have g0 : l[p]? = some k := by have := congrArg (·[0]?) hr5; simpa [List.getElem?_drop] using this
      have g1 : l[p + 1]? = some nn := by have := congrArg (·[1]?) hr5; simpa [List.getElem?_drop] using this
      have g2 : l[p + 2]? = some m := by have := congrArg (·[2]?) hr5; simpa [List.getElem?_drop] using this
      have g3 : l[p + 3]? = some o := by have := congrArg (·[3]?) hr5; simpa [List.getElem?_drop] using this
      have gr : l.drop (p + 4) = r' := by have := congrArg (List.drop 4) hr5; simpa [List.drop_drop] using this
      have hrl : r'.length = n - p - 4 := by rw [← gr, List.length_drop, hl.out]; omega
      obtain ⟨ad, x0, rfl, _, hx0, hc0⟩ := (hr.ext hbel).get (k := p) (by omega)
      obtain ⟨_, x1, e1, _, hx1, hc1⟩ := (hr.ext hbel).get (k := p + 1) (by omega)
      obtain ⟨_, x2, e2, _, hx2, hc2⟩ := (hr.ext hbel).get (k := p + 2) (by omega)
      obtain ⟨_, x3, e3, _, hx3, hc3⟩ := (hr.ext hbel).get (k := p + 3) (by omega)
      injection e1 with e1; subst e1
      injection e2 with e2; subst e2
      injection e3 with e3; subst e3
      have q0 := g0.symm.trans hx0.out; injection q0 with q0; subst q0
      have q1 := g1.symm.trans hx1.out; injection q1 with q1; subst q1
      have q2 := g2.symm.trans hx2.out; injection q2 with q2; subst q2
      have q3 := g3.symm.trans hx3.out; injection q3 with q3; subst q3
      rw [add_pos' _ _ (by omega)] at hc1 hc2 hc3
      have Hr := Lib.hid hr5
      have Hr4 := Lib.hid gr
      have Hrl := Lib.hid hrl
      clear hx0 hx1 hx2 hx3 g0 g1 g2 g3 hr5 gr hlp hrl
      have i0 : (p : Int) < n := by omega
      have i1 : (p : Int) + 1 < n := by omega
      have i2 : (p : Int) + 2 < n := by omega
      have i3 : (p : Int) + 3 < n := by omega
      have Hrd := Lib.hid hr
      have b0 := w8_lt k
      have b1 := w8_lt nn
      have b2 := w8_lt m
      have b3 := w8_lt o
      have hk9 : k.toNat % 9 < 9 := Nat.mod_lt _ (by omega)
      have hmod : w8 k % 9 = ((k.toNat % 9 : Nat) : Int) := by unfold w8; omega
      have hst := stepsOf_cons k nn m o r'
      generalize hq : k.toNat % 9 = q at hk9 hmod
      have Hst := Lib.hid hst
      have Hq := Lib.hid hq
      clear hst hq
      rcases (show q = 0 ∨ q = 1 ∨ q = 2 ∨ q = 3 ∨ q = 4 ∨ q = 5 ∨ q = 6 ∨ q = 7 ∨ q = 8 by omega) with rfl | rfl | rfl | rfl | rfl | rfl | rfl | rfl | rfl
      · have es : stepOf k nn m o r' = (⟨1, w8 nn % 4, 0, 0, 0, 0#32, [], r'.take m.toNat⟩, r'.drop m.toNat) := by unfold stepOf; rw [Hq.out]; rfl
        have Es := Lib.hid es
        clear es
        obtain ⟨mm, hmin, hm1, hm2, hm3⟩ : ∃ mm : Nat, (if (n : Int) - ((p : Int) + 4) < w8 m then (n : Int) - ((p : Int) + 4) else w8 m) = (mm : Int) ∧ p + 4 + mm ≤ n ∧ Hid (r'.take m.toNat = r'.take mm) ∧ Hid (r'.drop m.toNat = r'.drop mm) := by
          have hl := Hrl.out
          by_cases hlt : (n : Int) - ((p : Int) + 4) < w8 m
          · have : n - p - 4 < m.toNat := by unfold w8 at hlt; omega
            exact ⟨n - p - 4, by rw [if_pos hlt]; omega, by omega, by show _ = _; rw [List.take_of_length_le (by omega), List.take_of_length_le (by omega)], by show _ = _; rw [List.drop_of_length_le (by omega), List.drop_of_length_le (by omega)]⟩
          · exact ⟨m.toNat, by rw [if_neg hlt]; rfl, by unfold w8 at hlt; omega, rfl, rfl⟩
        have HR5 : Hid (RdB w (if c = p + 4 then some ad else some (ad.add (p + 4))) (p + 4 + mm - (p + 4)) (c - (p + 4)) (r'.take mm)) := by
          have h := (hr.past (p + 4) h4).upto mm (by omega)
          rw [Hr4.out] at h
          rw [show p + 4 + mm - (p + 4) = mm by omega]
          exact h
        go_wp2_with fail
        have s1 : IntKind.i64.wrap ((p : Int) + 1) = (p : Int) + 1 := IntWalk.i64_in _ (by omega)
        have s2 : IntKind.i64.wrap ((p : Int) + 2) = (p : Int) + 2 := IntWalk.i64_in _ (by omega)
        have s3 : IntKind.i64.wrap ((p : Int) + 3) = (p : Int) + 3 := IntWalk.i64_in _ (by omega)
        have n1 : (0 : Int) ≤ (p : Int) + 1 := by omega
        have n2 : (0 : Int) ≤ (p : Int) + 2 := by omega
        have n3 : (0 : Int) ≤ (p : Int) + 3 := by omega
        have t1 : ((p : Int) + 1).toNat = p + 1 := by omega
        have t2 : ((p : Int) + 2).toNat = p + 2 := by omega
        have t3 : ((p : Int) + 3).toNat = p + 3 := by omega
        go_quiet (fail)
        clear s1 s2 s3 n1 n2 n3 t1 t2 t3
        have HO := Lib.hid (hown.out.drawn nq)
        have HB := below_drawn hbel nq
        have hs : w.heap.size ≤ (wr.drewN nq).heap.size := hsz
        clear hc0 hc1 hc2 hc3
        generalize wr.drewN nq = wq at *
        clear hown hbel hsz
        have hX1 : (wq.alloc (.cells #[.int .i64 1, .int .i64 (w8 nn % 4), .int .i64 0, .int .i64 0, .int .i64 0, .int .u32 0, .slice none 0 0, .slice none 0 0] 29)).heap.size = wq.heap.size + 1 := by simp
        have HXs := Lib.hid hX1
        clear hX1
        have HBx := Lib.hid (HB.alloc hs (.cells #[.int .i64 1, .int .i64 (w8 nn % 4), .int .i64 0, .int .i64 0, .int .i64 0, .int .u32 0, .slice none 0 0, .slice none 0 0] 29))
        have HR6 := Lib.hid (HR5.out.ext (HBx.out.alloc HBx.out.size (.cells #[] 5)))
        have HX7 : ∀ (wd : World) (A6 : Option Addr) (c6 : Nat), Below (wq.heap.size + 1) (wq.alloc (.cells #[.int .i64 1, .int .i64 (w8 nn % 4), .int .i64 0, .int .i64 0, .int .i64 0, .int .u32 0, .slice none 0 0, .slice none 0 0] 29)) wd → Below wq.heap.size wq (wd.setCell ⟨wq.heap.size, 7, none⟩ (.slice A6 mm c6)) :=
          fun wd A6 c6 h => ((below_new wq _).trans (h.mono (Nat.le_succ _))).setCell (Nat.le_refl _) _
        have Hlt : Hid (∀ k, (Value.slice A2 N c2).ownBlock = some k → k < wq.heap.size) := fun k hk => by
          obtain ⟨rows, _, hrow, _⟩ := HO.out
          exact (World.ownsRow.lt hrow k hk).2
        go_wp2_with (first | (at_builtin; refine wpList_append_bytes rfl (.tmp 58) (.tmp 64) rfl (wq.heap.size + 1) (wq.alloc (.cells #[.int .i64 1, .int .i64 (w8 nn % 4), .int .i64 0, .int .i64 0, .int .i64 0, .int .u32 0, .slice none 0 0, .slice none 0 0] 29)) _ [] rfl (OwnB.empty' _ (wq.heap.size + 1) _ (by simp) (by simp)) _ _ _ (r'.take mm) rfl HR6.out (by simp; omega) ((Below.refl _ _).alloc (by simp) _) (by simp) mm (by simp) ?_; intro A6 c6 wd hownb hbd hBd; have Hbk := Lib.hid (Bk.below (Bk.made wq 29 #[.int .i64 1, .int .i64 (w8 nn % 4), .int .i64 0, .int .i64 0, .int .i64 0, .int .u32 0, .slice none 0 0, .slice none 0 0]) hbd (Nat.lt_succ_self _)); have hx0 := Hbk.out.cell 0; have hx1 := Hbk.out.cell 1; have hx2 := Hbk.out.cell 2; have hx3 := Hbk.out.cell 3; have hx4 := Hbk.out.cell 4; have hx5 := Hbk.out.cell 5; have hx6 := Hbk.out.cell 6; have hx7 := Hbk.out.cell 7; have hf7 := Hbk.out.thaw 7; have hbel7 := HX7 wd A6 c6 hbd; have Hown7 := Lib.hid (HO.out.ext hbel7); have hbw7 := HB.trans (hbel7.mono hs); have Hbd := Lib.hid hbw7; clear hbw7 hbel7; obtain ⟨rows, hmap, hrow, hok⟩ := Hown7.out; have Hmap := Lib.hid hmap; have Hok := Lib.hid hok; have Hrow := Lib.hid hrow; clear hmap hok hrow) | (at_builtin; refine wpList_append_gen rfl (.tmp 104) (.tmp 106) 22 rfl 29 ii _ 8 96 Try.underlying22 hi0 hz0 hs0 hb0 rfl (by omega) w.heap.size w _ N (rows.flatMap SRow.cells) rfl (World.ownsRow.alloc Hrow.out _) ⟨wd.heap.size, 0, none⟩ 1 1 (SRow.cells ⟨⟨1, w8 nn % 4, 0, 0, 0, 0#32, [], r'.take mm⟩, none, 0, 0, A6, mm, c6⟩) rfl rfl ?_ (SRow.one _) (by unfold maxLen; omega) (by omega) (Hbd.out.alloc Hbd.out.size _) (by have := Hbd.out.size; simp; simp at this; omega) ?_; exact cells_new _ _ _ _ _ rfl _ (by simp); intro A3 c3 w3 hown3 hg3 hat3 hb3 hB3))
        go_roundw
        case rel =>
          have hrb := hownb.out.rd
          rw [List.nil_append] at hrb
          have hfar : ∀ ad, A6 = some ad → wq.heap.size + 1 ≤ ad.block := fun ad e => hownb.out.own_lt _ (by rw [e]; rfl)
          have hrz : RdB (wd.setCell ⟨wq.heap.size, 7, none⟩ (.slice A6 mm c6)) A6 mm c6 (r'.take mm) := Rd.setFar (xs := bvs (r'.take mm)) hrb ⟨wq.heap.size, 7, none⟩ (.slice A6 mm c6) (fun ad e hbk => by have := hfar ad e; simp at hbk; omega)
          refine ⟨A3, p + 4 + mm, N + 1, c3, pre ++ [⟨1, w8 nn % 4, 0, 0, 0, 0#32, [], r'.take mm⟩], rfl, by go_num, by omega, by omega, ?_, ?_, hb3, hB3⟩
          · refine OwnS.push Hmap.out (fun r hr => (Hok.out r hr).ext (below_new _ _)) _ (SRow.withBytes _ (hrz.ext (below_new _ _)) rfl (fun _ ad e he => ?_)) hown3.out hg3.out hat3.out
            have h1 := Hlt.out _ he.symm
            have h2 := hfar ad e
            omega
          · show stepsOf l = _
            rw [heq.out, Hr.out, Hst.out, Es.out, hm2.out, hm3.out, ← List.drop_drop, Hr4.out, List.append_assoc]; rfl
        case measure => simp [intOf]; omega
      · have es : stepOf k nn m o r' = (⟨2, 0, 0, 0, 0, 0#32, [], []⟩, r') := by unfold stepOf; rw [Hq.out]; rfl
        have Es := Lib.hid es
        clear es
        go_wp2_with fail
        have s1 : IntKind.i64.wrap ((p : Int) + 1) = (p : Int) + 1 := IntWalk.i64_in _ (by omega)
        have s2 : IntKind.i64.wrap ((p : Int) + 2) = (p : Int) + 2 := IntWalk.i64_in _ (by omega)
        have s3 : IntKind.i64.wrap ((p : Int) + 3) = (p : Int) + 3 := IntWalk.i64_in _ (by omega)
        have n1 : (0 : Int) ≤ (p : Int) + 1 := by omega
        have n2 : (0 : Int) ≤ (p : Int) + 2 := by omega
        have n3 : (0 : Int) ≤ (p : Int) + 3 := by omega
        have t1 : ((p : Int) + 1).toNat = p + 1 := by omega
        have t2 : ((p : Int) + 2).toNat = p + 2 := by omega
        have t3 : ((p : Int) + 3).toNat = p + 3 := by omega
        go_quiet (fail)
        clear s1 s2 s3 n1 n2 n3 t1 t2 t3
        have HO := Lib.hid (hown.out.drawn nq)
        have HB := below_drawn hbel nq
        have hs : w.heap.size ≤ (wr.drewN nq).heap.size := hsz
        clear hc0 hc1 hc2 hc3
        generalize wr.drewN nq = wq at *
        clear hown hbel hsz
        obtain ⟨rows, hmap, hrow, hok⟩ := HO.out
        have Hmap := Lib.hid hmap
        have Hok := Lib.hid hok
        have Hrow := Lib.hid hrow
        clear hmap hok hrow HO
        go_wp2_with (at_builtin; refine wpList_append_gen rfl (.tmp 104) (.tmp 106) 22 rfl 29 ii _ 8 96 Try.underlying22 hi0 hz0 hs0 hb0 rfl (by omega) w.heap.size w _ N (rows.flatMap SRow.cells) rfl (World.ownsRow.alloc (World.ownsRow.alloc Hrow.out _) _) ⟨wq.heap.size + 1, 0, none⟩ 1 1 (SRow.cells ⟨⟨2, 0, 0, 0, 0, 0#32, [], []⟩, none, 0, 0, none, 0, 0⟩) rfl rfl ?_ (SRow.one _) (by unfold maxLen; omega) (by omega) ((HB.alloc hs _).alloc (by simp; omega) _) (by simp; omega) ?_; exact cells_new _ _ _ _ _ rfl _ (by simp); intro A3 c3 w3 hown3 hg3 hat3 hb3 hB3)
        go_roundw
        case rel =>
          refine ⟨A3, p + 4, N + 1, c3, pre ++ [⟨2, 0, 0, 0, 0, 0#32, [], []⟩], rfl, by go_num, by omega, by omega, ?_, ?_, hb3, hB3⟩
          · exact OwnS.push Hmap.out (fun r hr => ((Hok.out r hr).ext (below_new _ _)).ext (below_new _ _)) _ (SRow.bare _ _ _ rfl rfl) hown3.out hg3.out hat3.out
          · show stepsOf l = _
            rw [heq.out, Hr.out, Hst.out, Es.out, Hr4.out, List.append_assoc]; rfl
        case measure => simp [intOf]; omega
      · have es : stepOf k nn m o r' = (⟨3, 0, 0, 0, 0, 0#32, [], []⟩, r') := by unfold stepOf; rw [Hq.out]; rfl
        have Es := Lib.hid es
        clear es
        go_wp2_with fail
        have s1 : IntKind.i64.wrap ((p : Int) + 1) = (p : Int) + 1 := IntWalk.i64_in _ (by omega)
        have s2 : IntKind.i64.wrap ((p : Int) + 2) = (p : Int) + 2 := IntWalk.i64_in _ (by omega)
        have s3 : IntKind.i64.wrap ((p : Int) + 3) = (p : Int) + 3 := IntWalk.i64_in _ (by omega)
        have n1 : (0 : Int) ≤ (p : Int) + 1 := by omega
        have n2 : (0 : Int) ≤ (p : Int) + 2 := by omega
        have n3 : (0 : Int) ≤ (p : Int) + 3 := by omega
        have t1 : ((p : Int) + 1).toNat = p + 1 := by omega
        have t2 : ((p : Int) + 2).toNat = p + 2 := by omega
        have t3 : ((p : Int) + 3).toNat = p + 3 := by omega
        go_quiet (fail)
        clear s1 s2 s3 n1 n2 n3 t1 t2 t3
        have HO := Lib.hid (hown.out.drawn nq)
        have HB := below_drawn hbel nq
        have hs : w.heap.size ≤ (wr.drewN nq).heap.size := hsz
        clear hc0 hc1 hc2 hc3
        generalize wr.drewN nq = wq at *
        clear hown hbel hsz
        obtain ⟨rows, hmap, hrow, hok⟩ := HO.out
        have Hmap := Lib.hid hmap
        have Hok := Lib.hid hok
        have Hrow := Lib.hid hrow
        clear hmap hok hrow HO
        go_wp2_with (at_builtin; refine wpList_append_gen rfl (.tmp 104) (.tmp 106) 22 rfl 29 ii _ 8 96 Try.underlying22 hi0 hz0 hs0 hb0 rfl (by omega) w.heap.size w _ N (rows.flatMap SRow.cells) rfl (World.ownsRow.alloc (World.ownsRow.alloc Hrow.out _) _) ⟨wq.heap.size + 1, 0, none⟩ 1 1 (SRow.cells ⟨⟨3, 0, 0, 0, 0, 0#32, [], []⟩, none, 0, 0, none, 0, 0⟩) rfl rfl ?_ (SRow.one _) (by unfold maxLen; omega) (by omega) ((HB.alloc hs _).alloc (by simp; omega) _) (by simp; omega) ?_; exact cells_new _ _ _ _ _ rfl _ (by simp); intro A3 c3 w3 hown3 hg3 hat3 hb3 hB3)
        go_roundw
        case rel =>
          refine ⟨A3, p + 4, N + 1, c3, pre ++ [⟨3, 0, 0, 0, 0, 0#32, [], []⟩], rfl, by go_num, by omega, by omega, ?_, ?_, hb3, hB3⟩
          · exact OwnS.push Hmap.out (fun r hr => ((Hok.out r hr).ext (below_new _ _)).ext (below_new _ _)) _ (SRow.bare _ _ _ rfl rfl) hown3.out hg3.out hat3.out
          · show stepsOf l = _
            rw [heq.out, Hr.out, Hst.out, Es.out, Hr4.out, List.append_assoc]; rfl
        case measure => simp [intOf]; omega
      · have es : stepOf k nn m o r' = (⟨4, 0, 0, 0, 0, 0#32, [], []⟩, r') := by unfold stepOf; rw [Hq.out]; rfl
        have Es := Lib.hid es
        clear es
        go_wp2_with fail
        have s1 : IntKind.i64.wrap ((p : Int) + 1) = (p : Int) + 1 := IntWalk.i64_in _ (by omega)
        have s2 : IntKind.i64.wrap ((p : Int) + 2) = (p : Int) + 2 := IntWalk.i64_in _ (by omega)
        have s3 : IntKind.i64.wrap ((p : Int) + 3) = (p : Int) + 3 := IntWalk.i64_in _ (by omega)
        have n1 : (0 : Int) ≤ (p : Int) + 1 := by omega
        have n2 : (0 : Int) ≤ (p : Int) + 2 := by omega
        have n3 : (0 : Int) ≤ (p : Int) + 3 := by omega
        have t1 : ((p : Int) + 1).toNat = p + 1 := by omega
        have t2 : ((p : Int) + 2).toNat = p + 2 := by omega
        have t3 : ((p : Int) + 3).toNat = p + 3 := by omega
        go_quiet (fail)
        clear s1 s2 s3 n1 n2 n3 t1 t2 t3
        have HO := Lib.hid (hown.out.drawn nq)
        have HB := below_drawn hbel nq
        have hs : w.heap.size ≤ (wr.drewN nq).heap.size := hsz
        clear hc0 hc1 hc2 hc3
        generalize wr.drewN nq = wq at *
        clear hown hbel hsz
        obtain ⟨rows, hmap, hrow, hok⟩ := HO.out
        have Hmap := Lib.hid hmap
        have Hok := Lib.hid hok
        have Hrow := Lib.hid hrow
        clear hmap hok hrow HO
        go_wp2_with (at_builtin; refine wpList_append_gen rfl (.tmp 104) (.tmp 106) 22 rfl 29 ii _ 8 96 Try.underlying22 hi0 hz0 hs0 hb0 rfl (by omega) w.heap.size w _ N (rows.flatMap SRow.cells) rfl (World.ownsRow.alloc (World.ownsRow.alloc Hrow.out _) _) ⟨wq.heap.size + 1, 0, none⟩ 1 1 (SRow.cells ⟨⟨4, 0, 0, 0, 0, 0#32, [], []⟩, none, 0, 0, none, 0, 0⟩) rfl rfl ?_ (SRow.one _) (by unfold maxLen; omega) (by omega) ((HB.alloc hs _).alloc (by simp; omega) _) (by simp; omega) ?_; exact cells_new _ _ _ _ _ rfl _ (by simp); intro A3 c3 w3 hown3 hg3 hat3 hb3 hB3)
        go_roundw
        case rel =>
          refine ⟨A3, p + 4, N + 1, c3, pre ++ [⟨4, 0, 0, 0, 0, 0#32, [], []⟩], rfl, by go_num, by omega, by omega, ?_, ?_, hb3, hB3⟩
          · exact OwnS.push Hmap.out (fun r hr => ((Hok.out r hr).ext (below_new _ _)).ext (below_new _ _)) _ (SRow.bare _ _ _ rfl rfl) hown3.out hg3.out hat3.out
          · show stepsOf l = _
            rw [heq.out, Hr.out, Hst.out, Es.out, Hr4.out, List.append_assoc]; rfl
        case measure => simp [intOf]; omega
      · have es : stepOf k nn m o r' = (⟨5, 0, w8 nn, 0, 0, 0#32, [], []⟩, r') := by unfold stepOf; rw [Hq.out]; rfl
        have Es := Lib.hid es
        clear es
        go_wp2_with fail
        have s1 : IntKind.i64.wrap ((p : Int) + 1) = (p : Int) + 1 := IntWalk.i64_in _ (by omega)
        have s2 : IntKind.i64.wrap ((p : Int) + 2) = (p : Int) + 2 := IntWalk.i64_in _ (by omega)
        have s3 : IntKind.i64.wrap ((p : Int) + 3) = (p : Int) + 3 := IntWalk.i64_in _ (by omega)
        have n1 : (0 : Int) ≤ (p : Int) + 1 := by omega
        have n2 : (0 : Int) ≤ (p : Int) + 2 := by omega
        have n3 : (0 : Int) ≤ (p : Int) + 3 := by omega
        have t1 : ((p : Int) + 1).toNat = p + 1 := by omega
        have t2 : ((p : Int) + 2).toNat = p + 2 := by omega
        have t3 : ((p : Int) + 3).toNat = p + 3 := by omega
        go_quiet (fail)
        clear s1 s2 s3 n1 n2 n3 t1 t2 t3
        have HO := Lib.hid (hown.out.drawn nq)
        have HB := below_drawn hbel nq
        have hs : w.heap.size ≤ (wr.drewN nq).heap.size := hsz
        clear hc0 hc1 hc2 hc3
        generalize wr.drewN nq = wq at *
        clear hown hbel hsz
        obtain ⟨rows, hmap, hrow, hok⟩ := HO.out
        have Hmap := Lib.hid hmap
        have Hok := Lib.hid hok
        have Hrow := Lib.hid hrow
        clear hmap hok hrow HO
        go_wp2_with (at_builtin; refine wpList_append_gen rfl (.tmp 104) (.tmp 106) 22 rfl 29 ii _ 8 96 Try.underlying22 hi0 hz0 hs0 hb0 rfl (by omega) w.heap.size w _ N (rows.flatMap SRow.cells) rfl (World.ownsRow.alloc (World.ownsRow.alloc Hrow.out _) _) ⟨wq.heap.size + 1, 0, none⟩ 1 1 (SRow.cells ⟨⟨5, 0, w8 nn, 0, 0, 0#32, [], []⟩, none, 0, 0, none, 0, 0⟩) rfl rfl ?_ (SRow.one _) (by unfold maxLen; omega) (by omega) ((HB.alloc hs _).alloc (by simp; omega) _) (by simp; omega) ?_; exact cells_new _ _ _ _ _ rfl _ (by simp); intro A3 c3 w3 hown3 hg3 hat3 hb3 hB3)
        go_roundw
        case rel =>
          refine ⟨A3, p + 4, N + 1, c3, pre ++ [⟨5, 0, w8 nn, 0, 0, 0#32, [], []⟩], rfl, by go_num, by omega, by omega, ?_, ?_, hb3, hB3⟩
          · exact OwnS.push Hmap.out (fun r hr => ((Hok.out r hr).ext (below_new _ _)).ext (below_new _ _)) _ (SRow.bare _ _ _ rfl rfl) hown3.out hg3.out hat3.out
          · show stepsOf l = _
            rw [heq.out, Hr.out, Hst.out, Es.out, Hr4.out, List.append_assoc]; rfl
        case measure => simp [intOf]; omega
      · have es : stepOf k nn m o r' = (⟨6, 0, 0, 0, 0, 0#32, [w8 nn, w8 m, w8 o], []⟩, r') := by unfold stepOf; rw [Hq.out]; rfl
        have Es := Lib.hid es
        clear es
        go_wp2_with fail
        have s1 : IntKind.i64.wrap ((p : Int) + 1) = (p : Int) + 1 := IntWalk.i64_in _ (by omega)
        have s2 : IntKind.i64.wrap ((p : Int) + 2) = (p : Int) + 2 := IntWalk.i64_in _ (by omega)
        have s3 : IntKind.i64.wrap ((p : Int) + 3) = (p : Int) + 3 := IntWalk.i64_in _ (by omega)
        have n1 : (0 : Int) ≤ (p : Int) + 1 := by omega
        have n2 : (0 : Int) ≤ (p : Int) + 2 := by omega
        have n3 : (0 : Int) ≤ (p : Int) + 3 := by omega
        have t1 : ((p : Int) + 1).toNat = p + 1 := by omega
        have t2 : ((p : Int) + 2).toNat = p + 2 := by omega
        have t3 : ((p : Int) + 3).toNat = p + 3 := by omega
        go_quiet (fail)
        clear s1 s2 s3 n1 n2 n3 t1 t2 t3
        have HO := Lib.hid (hown.out.drawn nq)
        have HB := below_drawn hbel nq
        have hs : w.heap.size ≤ (wr.drewN nq).heap.size := hsz
        clear hc0 hc1 hc2 hc3
        generalize wr.drewN nq = wq at *
        clear hown hbel hsz
        obtain ⟨rows, hmap, hrow, hok⟩ := HO.out
        have Hmap := Lib.hid hmap
        have Hok := Lib.hid hok
        have Hrow := Lib.hid hrow
        clear hmap hok hrow HO
        go_wp2_with (at_builtin; refine wpList_append_gen rfl (.tmp 104) (.tmp 106) 22 rfl 29 ii _ 8 96 Try.underlying22 hi0 hz0 hs0 hb0 rfl (by omega) w.heap.size w _ N (rows.flatMap SRow.cells) rfl (World.ownsRow.alloc (World.ownsRow.alloc (World.ownsRow.alloc Hrow.out _) _) _) ⟨wq.heap.size + 1 + 1, 0, none⟩ 1 1 (SRow.cells ⟨⟨6, 0, 0, 0, 0, 0#32, [w8 nn, w8 m, w8 o], []⟩, some ⟨wq.heap.size + 1, 0, none⟩, 3, 3, none, 0, 0⟩) rfl rfl ?_ (SRow.one _) (by unfold maxLen; omega) (by omega) (((HB.alloc hs _).alloc (by simp; omega) _).alloc (by simp; omega) _) (by simp; omega) ?_; exact cells_new _ _ _ _ _ rfl _ (by simp); intro A3 c3 w3 hown3 hg3 hat3 hb3 hB3)
        go_roundw
        case rel =>
          refine ⟨A3, p + 4, N + 1, c3, pre ++ [⟨6, 0, 0, 0, 0, 0#32, [w8 nn, w8 m, w8 o], []⟩], rfl, by go_num, by omega, by omega, ?_, ?_, hb3, hB3⟩
          · refine OwnS.push Hmap.out (fun r hr => (((Hok.out r hr).ext (below_new _ _)).ext (below_new _ _)).ext (below_new _ _)) _ (SRow.withBits _ _ _ _ (t := 50) (Bk.alloc (bk_made' _ _ _ _ (by simp)) _) rfl rfl ?_) hown3.out hg3.out hat3.out
            intro e
            have := (World.ownsRow.lt Hrow.out _ e.symm).2
            omega
          · show stepsOf l = _
            rw [heq.out, Hr.out, Hst.out, Es.out, Hr4.out, List.append_assoc]; rfl
        case measure => simp [intOf]; omega
      · have es : stepOf k nn m o r' = (⟨7, 0, w8 nn % 8, 0, 0, 0#32, [], []⟩, r') := by unfold stepOf; rw [Hq.out]; rfl
        have Es := Lib.hid es
        clear es
        go_wp2_with fail
        have s1 : IntKind.i64.wrap ((p : Int) + 1) = (p : Int) + 1 := IntWalk.i64_in _ (by omega)
        have s2 : IntKind.i64.wrap ((p : Int) + 2) = (p : Int) + 2 := IntWalk.i64_in _ (by omega)
        have s3 : IntKind.i64.wrap ((p : Int) + 3) = (p : Int) + 3 := IntWalk.i64_in _ (by omega)
        have n1 : (0 : Int) ≤ (p : Int) + 1 := by omega
        have n2 : (0 : Int) ≤ (p : Int) + 2 := by omega
        have n3 : (0 : Int) ≤ (p : Int) + 3 := by omega
        have t1 : ((p : Int) + 1).toNat = p + 1 := by omega
        have t2 : ((p : Int) + 2).toNat = p + 2 := by omega
        have t3 : ((p : Int) + 3).toNat = p + 3 := by omega
        go_quiet (fail)
        clear s1 s2 s3 n1 n2 n3 t1 t2 t3
        have HO := Lib.hid (hown.out.drawn nq)
        have HB := below_drawn hbel nq
        have hs : w.heap.size ≤ (wr.drewN nq).heap.size := hsz
        clear hc0 hc1 hc2 hc3
        generalize wr.drewN nq = wq at *
        clear hown hbel hsz
        obtain ⟨rows, hmap, hrow, hok⟩ := HO.out
        have Hmap := Lib.hid hmap
        have Hok := Lib.hid hok
        have Hrow := Lib.hid hrow
        clear hmap hok hrow HO
        go_wp2_with (at_builtin; refine wpList_append_gen rfl (.tmp 104) (.tmp 106) 22 rfl 29 ii _ 8 96 Try.underlying22 hi0 hz0 hs0 hb0 rfl (by omega) w.heap.size w _ N (rows.flatMap SRow.cells) rfl (World.ownsRow.alloc (World.ownsRow.alloc Hrow.out _) _) ⟨wq.heap.size + 1, 0, none⟩ 1 1 (SRow.cells ⟨⟨7, 0, w8 nn % 8, 0, 0, 0#32, [], []⟩, none, 0, 0, none, 0, 0⟩) rfl rfl ?_ (SRow.one _) (by unfold maxLen; omega) (by omega) ((HB.alloc hs _).alloc (by simp; omega) _) (by simp; omega) ?_; exact cells_new _ _ _ _ _ rfl _ (by simp); intro A3 c3 w3 hown3 hg3 hat3 hb3 hB3)
        go_roundw
        case rel =>
          refine ⟨A3, p + 4, N + 1, c3, pre ++ [⟨7, 0, w8 nn % 8, 0, 0, 0#32, [], []⟩], rfl, by go_num, by omega, by omega, ?_, ?_, hb3, hB3⟩
          · exact OwnS.push Hmap.out (fun r hr => ((Hok.out r hr).ext (below_new _ _)).ext (below_new _ _)) _ (SRow.bare _ _ _ rfl rfl) hown3.out hg3.out hat3.out
          · show stepsOf l = _
            rw [heq.out, Hr.out, Hst.out, Es.out, Hr4.out, List.append_assoc]; rfl
        case measure => simp [intOf]; omega
      · have es : stepOf k nn m o r' = (⟨8, 0, w8 nn % 8, 0, 0, 0#32, [], []⟩, r') := by unfold stepOf; rw [Hq.out]; rfl
        have Es := Lib.hid es
        clear es
        go_wp2_with fail
        have s1 : IntKind.i64.wrap ((p : Int) + 1) = (p : Int) + 1 := IntWalk.i64_in _ (by omega)
        have s2 : IntKind.i64.wrap ((p : Int) + 2) = (p : Int) + 2 := IntWalk.i64_in _ (by omega)
        have s3 : IntKind.i64.wrap ((p : Int) + 3) = (p : Int) + 3 := IntWalk.i64_in _ (by omega)
        have n1 : (0 : Int) ≤ (p : Int) + 1 := by omega
        have n2 : (0 : Int) ≤ (p : Int) + 2 := by omega
        have n3 : (0 : Int) ≤ (p : Int) + 3 := by omega
        have t1 : ((p : Int) + 1).toNat = p + 1 := by omega
        have t2 : ((p : Int) + 2).toNat = p + 2 := by omega
        have t3 : ((p : Int) + 3).toNat = p + 3 := by omega
        go_quiet (fail)
        clear s1 s2 s3 n1 n2 n3 t1 t2 t3
        have HO := Lib.hid (hown.out.drawn nq)
        have HB := below_drawn hbel nq
        have hs : w.heap.size ≤ (wr.drewN nq).heap.size := hsz
        clear hc0 hc1 hc2 hc3
        generalize wr.drewN nq = wq at *
        clear hown hbel hsz
        obtain ⟨rows, hmap, hrow, hok⟩ := HO.out
        have Hmap := Lib.hid hmap
        have Hok := Lib.hid hok
        have Hrow := Lib.hid hrow
        clear hmap hok hrow HO
        go_wp2_with (at_builtin; refine wpList_append_gen rfl (.tmp 104) (.tmp 106) 22 rfl 29 ii _ 8 96 Try.underlying22 hi0 hz0 hs0 hb0 rfl (by omega) w.heap.size w _ N (rows.flatMap SRow.cells) rfl (World.ownsRow.alloc (World.ownsRow.alloc Hrow.out _) _) ⟨wq.heap.size + 1, 0, none⟩ 1 1 (SRow.cells ⟨⟨8, 0, w8 nn % 8, 0, 0, 0#32, [], []⟩, none, 0, 0, none, 0, 0⟩) rfl rfl ?_ (SRow.one _) (by unfold maxLen; omega) (by omega) ((HB.alloc hs _).alloc (by simp; omega) _) (by simp; omega) ?_; exact cells_new _ _ _ _ _ rfl _ (by simp); intro A3 c3 w3 hown3 hg3 hat3 hb3 hB3)
        go_roundw
        case rel =>
          refine ⟨A3, p + 4, N + 1, c3, pre ++ [⟨8, 0, w8 nn % 8, 0, 0, 0#32, [], []⟩], rfl, by go_num, by omega, by omega, ?_, ?_, hb3, hB3⟩
          · exact OwnS.push Hmap.out (fun r hr => ((Hok.out r hr).ext (below_new _ _)).ext (below_new _ _)) _ (SRow.bare _ _ _ rfl rfl) hown3.out hg3.out hat3.out
          · show stepsOf l = _
            rw [heq.out, Hr.out, Hst.out, Es.out, Hr4.out, List.append_assoc]; rfl
        case measure => simp [intOf]; omega
      · have es : stepOf k nn m o r' = (⟨9, 0, w8 nn % 8, w8 m, w8 o % 125, BitVec.ofNat 32 (k.toNat + 1), [], []⟩, r') := by unfold stepOf; rw [Hq.out]; rfl
        have Es := Lib.hid es
        clear es
        have hX : 1 + w8 k = w32 (BitVec.ofNat 32 (k.toNat + 1)) := by unfold w8 w32; rw [BitVec.toNat_ofNat]; have := k.toNat_lt; omega
        go_wp2_with fail
        have s1 : IntKind.i64.wrap ((p : Int) + 1) = (p : Int) + 1 := IntWalk.i64_in _ (by omega)
        have s2 : IntKind.i64.wrap ((p : Int) + 2) = (p : Int) + 2 := IntWalk.i64_in _ (by omega)
        have s3 : IntKind.i64.wrap ((p : Int) + 3) = (p : Int) + 3 := IntWalk.i64_in _ (by omega)
        have n1 : (0 : Int) ≤ (p : Int) + 1 := by omega
        have n2 : (0 : Int) ≤ (p : Int) + 2 := by omega
        have n3 : (0 : Int) ≤ (p : Int) + 3 := by omega
        have t1 : ((p : Int) + 1).toNat = p + 1 := by omega
        have t2 : ((p : Int) + 2).toNat = p + 2 := by omega
        have t3 : ((p : Int) + 3).toNat = p + 3 := by omega
        go_quiet (fail)
        clear s1 s2 s3 n1 n2 n3 t1 t2 t3
        have HO := Lib.hid (hown.out.drawn nq)
        have HB := below_drawn hbel nq
        have hs : w.heap.size ≤ (wr.drewN nq).heap.size := hsz
        clear hc0 hc1 hc2 hc3
        generalize wr.drewN nq = wq at *
        clear hown hbel hsz
        obtain ⟨rows, hmap, hrow, hok⟩ := HO.out
        have Hmap := Lib.hid hmap
        have Hok := Lib.hid hok
        have Hrow := Lib.hid hrow
        clear hmap hok hrow HO
        go_wp2_with (at_builtin; refine wpList_append_gen rfl (.tmp 104) (.tmp 106) 22 rfl 29 ii _ 8 96 Try.underlying22 hi0 hz0 hs0 hb0 rfl (by omega) w.heap.size w _ N (rows.flatMap SRow.cells) rfl (World.ownsRow.alloc (World.ownsRow.alloc Hrow.out _) _) ⟨wq.heap.size + 1, 0, none⟩ 1 1 (SRow.cells ⟨⟨9, 0, w8 nn % 8, w8 m, w8 o % 125, BitVec.ofNat 32 (k.toNat + 1), [], []⟩, none, 0, 0, none, 0, 0⟩) rfl rfl ?_ (SRow.one _) (by unfold maxLen; omega) (by omega) ((HB.alloc hs _).alloc (by simp; omega) _) (by simp; omega) ?_; exact cells_new _ _ _ _ _ rfl _ (by simp); intro A3 c3 w3 hown3 hg3 hat3 hb3 hB3)
        go_roundw
        case rel =>
          refine ⟨A3, p + 4, N + 1, c3, pre ++ [⟨9, 0, w8 nn % 8, w8 m, w8 o % 125, BitVec.ofNat 32 (k.toNat + 1), [], []⟩], rfl, by go_num, by omega, by omega, ?_, ?_, hb3, hB3⟩
          · exact OwnS.push Hmap.out (fun r hr => ((Hok.out r hr).ext (below_new _ _)).ext (below_new _ _)) _ (SRow.bare _ _ _ rfl rfl) hown3.out hg3.out hat3.out
          · show stepsOf l = _
            rw [heq.out, Hr.out, Hst.out, Es.out, Hr4.out, List.append_assoc]; rfl
        case measure => simp [intOf]; omega
    · have h0 : ¬ (p : Int) + 3 < n := by omega
      have hst := stepsOf_short (l.drop p) (by rw [List.length_drop, hl.out]; omega)
      have Hst := Lib.hid hst
      clear hst
      go_wp2_with fail
      go_ret
      refine ⟨A2, N, c2, rfl, ?_, hbel⟩
      have e := heq.out
      rw [Hst.out, List.append_nil] at e
      rw [e]
      exact hown.out
end Go.Proofs.Ytcggnphoekmoaaa
