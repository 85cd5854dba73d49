/-
  EntryOnly: the walk.
-/
import Derived.Test.YtpfdbbcfcimmfaaDoorEFew
import Derived.Test.YtpfdbbcfcimmfaaDoorEOnlyM
import Derived.Deep.RegionHeld3
import Derived.Deep.CutRange
namespace Go.Proofs.YtpfdbbcfcimmfaaDoor
open Go.RowKit
attribute [local go_sem ↓] ldE_eq stE_eq

set_option maxRecDepth 100000 in
set_option maxHeartbeats 4000000 in
theorem entryOnly_w (e : Ent) (A : Option Addr) (n c : Nat) (z : Int) (hz : fitI z) (w : World) (hr : RdT w A n c e.bat.vals) :
    Calls Tryd.prog 4 #[.agg #[.int .i64 e.kind, .string e.topic, .string e.group, .int .i64 e.part, .int .i64 e.parts, .int .i64 e.first, .int .i64 e.off, .int .i64 e.bat.time, .int .i64 e.bat.prod, .int .i64 e.bat.seq, .slice A n c], .int .i64 z] w fun er w' => er = .returned (.bool true) ∧ Below w.heap.size w w' := by
  have hbn := below_new w (.cells #[.int .i64 e.kind, .string e.topic, .string e.group, .int .i64 e.part, .int .i64 e.parts, .int .i64 e.first, .int .i64 e.off, .int .i64 e.bat.time, .int .i64 e.bat.prod, .int .i64 e.bat.seq, .slice A n c] 29)
  have hld := ldE_bk (Bk.made w 29 #[.int .i64 e.kind, .string e.topic, .string e.group, .int .i64 e.part, .int .i64 e.parts, .int .i64 e.first, .int .i64 e.off, .int .i64 e.bat.time, .int .i64 e.bat.prod, .int .i64 e.bat.seq, .slice A n c])
  have HF := Lib.hid (few_any e A n c _ (hr.ext hbn))
  have HB0 := Lib.hid hbn
  clear hbn hr
  go_enter Tryd.func4, Tryd.ntmps4
  go_wp2_with fail
  with_reducible refine HF.out.mono ?_
  rintro er w1 ⟨x, A1, n1, c1, rfl, hr1, hb1⟩
  have hst1 := stE_newAt w1 w1.heap.size rfl x.kind x.topic x.group x.part x.parts x.first x.off x.bat.time x.bat.prod x.bat.seq A1 n1 c1 #[.int .i64 0, .string ⟨#[]⟩, .string ⟨#[]⟩, .int .i64 0, .int .i64 0, .int .i64 0, .int .i64 0, .int .i64 0, .int .i64 0, .int .i64 0, .slice none 0 0] rfl
  have hbn1 := below_new w1 (.cells #[.int .i64 x.kind, .string x.topic, .string x.group, .int .i64 x.part, .int .i64 x.parts, .int .i64 x.first, .int .i64 x.off, .int .i64 x.bat.time, .int .i64 x.bat.prod, .int .i64 x.bat.seq, .slice A1 n1 c1] 29)
  have hk1 := Bk.made w1 29 #[.int .i64 x.kind, .string x.topic, .string x.group, .int .i64 x.part, .int .i64 x.parts, .int .i64 x.first, .int .i64 x.off, .int .i64 x.bat.time, .int .i64 x.bat.prod, .int .i64 x.bat.seq, .slice A1 n1 c1]
  have hld1 := ldE_bk hk1
  have HK1 := Lib.hid hk1
  have HR1 := Lib.hid (hr1.ext hbn1)
  have hB1 := HB0.out.trans (below_le HB0.out.size hb1)
  have HB1 := Lib.hid (hB1.trans (below_le hB1.size hbn1))
  clear hk1 hr1 hb1 hB1 hbn1 HF HB0
  go_wp2_with fail
  refine calls_cut (fun w' => Bk w' w1.heap.size 29 #[.int .i64 x.kind, .string x.topic, .string x.group, .int .i64 x.part, .int .i64 x.parts, .int .i64 x.first, .int .i64 x.off, .int .i64 x.bat.time, .int .i64 x.bat.prod, .int .i64 x.bat.seq, .slice A1 n1 c1] ∧ RdT w' A1 n1 c1 x.bat.vals ∧ Below w.heap.size w w') ⟨HK1.out, HR1.out, HB1.out⟩ ?_
  clear HK1 HR1 HB1 hld hld1 hst1
  rintro w2 ⟨hk2, hr2, hb2⟩
  obtain ⟨r, hre⟩ : ∃ r, rightE x = r := ⟨_, rfl⟩
  refine (eRight_any x A1 n1 c1 w2 hr2 r hre).mono ?_
  rintro er w3 ⟨rfl, hb3⟩
  have HK3 := Lib.hid (hk2.ext hb3)
  have HR3 := Lib.hid (hr2.ext hb3)
  have HB3 := Lib.hid (hb2.trans (below_le hb2.size hb3))
  have Hre := Lib.hid hre
  clear hk2 hr2 hb2 hb3 hre
  cases r
  · have HE := Lib.hid (entryRuns_any w3)
    go_wp2_with fail
    with_reducible refine HE.out.mono ?_
    rintro er w4 ⟨rfl, hb4⟩
    go_wp2_with fail
    go_ret
    exact ⟨rfl, HB3.out.trans (below_le HB3.out.size hb4)⟩
  · have hwn := within_in z 1 9 (by omega)
    have HW := Lib.hid (within_any z 1 9 w3 (by omega) (by omega) (by omega) hz.1 hz.2)
    obtain ⟨k, hk⟩ : ∃ k, within z 1 9 = k := ⟨_, rfl⟩
    rw [hk] at hwn HW
    clear hk
    obtain ⟨V, hVe⟩ : ∃ V, V = Value.agg #[.int .i64 x.kind, .string x.topic, .string x.group, .int .i64 x.part, .int .i64 x.parts, .int .i64 x.first, .int .i64 x.off, .int .i64 x.bat.time, .int .i64 x.bat.prod, .int .i64 x.bat.seq, .slice A1 n1 c1] := ⟨_, rfl⟩
    have hV : ∀ {w : World} {G : Nat} {old : Array Value}, Bk w G 29 old → old.size = 11 → (stE (.pointer (some ⟨G, 0, none⟩)) V).run Tryd.prog w = .ok () (w.setRow G #[.int .i64 x.kind, .string x.topic, .string x.group, .int .i64 x.part, .int .i64 x.parts, .int .i64 x.first, .int .i64 x.off, .int .i64 x.bat.time, .int .i64 x.bat.prod, .int .i64 x.bat.seq, .slice A1 n1 c1]) := fun hb ho => by
      rw [hVe]
      exact stE_row hb ho x.kind x.topic x.group x.part x.parts x.first x.off x.bat.time x.bat.prod x.bat.seq A1 n1 c1
    have FS : Hid (∀ w', Below w3.heap.size w3 w' → (Below w3.heap.size w3 w' ∧ (ldE (.pointer (some ⟨w1.heap.size, 0, none⟩))).run Tryd.prog w' = .ok V w')) := fun w' hb => ⟨hb, by
      rw [hVe]
      exact ldE_bk (HK3.out.ext hb)⟩
    have T_ := Lib.hid (St3.made w3 #[.int .i64 0, .string ⟨#[]⟩, .string ⟨#[]⟩, .int .i64 0, .int .i64 0, .int .i64 0, .int .i64 0, .int .i64 0, .int .i64 0, .int .i64 0, .slice none 0 0] #[.int .i64 0, .string ⟨#[]⟩, .string ⟨#[]⟩, .int .i64 0, .int .i64 0, .int .i64 0, .int .i64 0, .int .i64 0, .int .i64 0, .int .i64 0, .slice none 0 0] #[.int .i64 0, .string ⟨#[]⟩, .string ⟨#[]⟩, .int .i64 0, .int .i64 0, .int .i64 0, .int .i64 0, .int .i64 0, .int .i64 0, .int .i64 0, .slice none 0 0])
    obtain ⟨W_0, e_0, t_0, b_0⟩ := St3.put0 hV T_.out rfl
    have T_0 := Lib.hid t_0
    clear t_0
    obtain ⟨W_01, e_01, t_01, b_01⟩ := St3.put1 hV T_0.out rfl
    have T_01 := Lib.hid t_01
    clear t_01
    obtain ⟨W_012, e_012, t_012, b_012⟩ := St3.put2 hV T_01.out rfl
    have T_012 := Lib.hid t_012
    clear t_012
    obtain ⟨W_02, e_02, t_02, b_02⟩ := St3.put2 hV T_0.out rfl
    have T_02 := Lib.hid t_02
    clear t_02
    obtain ⟨W_021, e_021, t_021, b_021⟩ := St3.put1 hV T_02.out rfl
    have T_021 := Lib.hid t_021
    clear t_021
    obtain ⟨W_1, e_1, t_1, b_1⟩ := St3.put1 hV T_.out rfl
    have T_1 := Lib.hid t_1
    clear t_1
    obtain ⟨W_10, e_10, t_10, b_10⟩ := St3.put0 hV T_1.out rfl
    have T_10 := Lib.hid t_10
    clear t_10
    obtain ⟨W_102, e_102, t_102, b_102⟩ := St3.put2 hV T_10.out rfl
    have T_102 := Lib.hid t_102
    clear t_102
    obtain ⟨W_12, e_12, t_12, b_12⟩ := St3.put2 hV T_1.out rfl
    have T_12 := Lib.hid t_12
    clear t_12
    obtain ⟨W_120, e_120, t_120, b_120⟩ := St3.put0 hV T_12.out rfl
    have T_120 := Lib.hid t_120
    clear t_120
    obtain ⟨W_2, e_2, t_2, b_2⟩ := St3.put2 hV T_.out rfl
    have T_2 := Lib.hid t_2
    clear t_2
    obtain ⟨W_20, e_20, t_20, b_20⟩ := St3.put0 hV T_2.out rfl
    have T_20 := Lib.hid t_20
    clear t_20
    obtain ⟨W_201, e_201, t_201, b_201⟩ := St3.put1 hV T_20.out rfl
    have T_201 := Lib.hid t_201
    clear t_201
    obtain ⟨W_21, e_21, t_21, b_21⟩ := St3.put1 hV T_2.out rfl
    have T_21 := Lib.hid t_21
    clear t_21
    obtain ⟨W_210, e_210, t_210, b_210⟩ := St3.put0 hV T_21.out rfl
    have T_210 := Lib.hid t_210
    clear t_210
    have c0 := below_drew1 (Below.refl w3.heap.size w3)
    have c1' := below_drew1 ((Below.refl w3.heap.size w3).alloc (Nat.le_refl _) (.cells #[.int .i64 0, .string ⟨#[]⟩, .string ⟨#[]⟩, .int .i64 0, .int .i64 0, .int .i64 0, .int .i64 0, .int .i64 0, .int .i64 0, .int .i64 0, .slice none 0 0] 29))
    have c2 := below_drew1 (below_two w3 (.cells #[.int .i64 0, .string ⟨#[]⟩, .string ⟨#[]⟩, .int .i64 0, .int .i64 0, .int .i64 0, .int .i64 0, .int .i64 0, .int .i64 0, .int .i64 0, .slice none 0 0] 29) (.cells #[.int .i64 0, .string ⟨#[]⟩, .string ⟨#[]⟩, .int .i64 0, .int .i64 0, .int .i64 0, .int .i64 0, .int .i64 0, .int .i64 0, .int .i64 0, .slice none 0 0] 29))
    have c3 := T_.out.2.2.2
    clear hVe
    go_wp2_with fail
    with_reducible refine HW.out.mono ?_
    rintro er w4 ⟨rfl, rfl⟩
    go_upto_region 5 with fail
    go_cut [7, 8, 9] from 10 to 61 (fun s7 s8 s9 wx => ∃ g7 g8 g9, s7 = .pointer (some ⟨g7, 0, none⟩) ∧ s8 = .pointer (some ⟨g8, 0, none⟩) ∧ s9 = .pointer (some ⟨g9, 0, none⟩) ∧ g7 ≠ g8 ∧ g7 ≠ g9 ∧ g8 ≠ g9 ∧ w3.heap.size ≤ g7 ∧ w3.heap.size ≤ g8 ∧ w3.heap.size ≤ g9 ∧ Bk wx g7 29 #[.int .i64 x.kind, .string x.topic, .string x.group, .int .i64 x.part, .int .i64 x.parts, .int .i64 x.first, .int .i64 x.off, .int .i64 x.bat.time, .int .i64 x.bat.prod, .int .i64 x.bat.seq, .slice A1 n1 c1] ∧ Bk wx g8 29 #[.int .i64 x.kind, .string x.topic, .string x.group, .int .i64 x.part, .int .i64 x.parts, .int .i64 x.first, .int .i64 x.off, .int .i64 x.bat.time, .int .i64 x.bat.prod, .int .i64 x.bat.seq, .slice A1 n1 c1] ∧ Bk wx g9 29 #[.int .i64 x.kind, .string x.topic, .string x.group, .int .i64 x.part, .int .i64 x.parts, .int .i64 x.first, .int .i64 x.off, .int .i64 x.bat.time, .int .i64 x.bat.prod, .int .i64 x.bat.seq, .slice A1 n1 c1] ∧ Below w3.heap.size w3 wx)
    case first =>
      go_region_held3 (fun w' => Below w3.heap.size w3 w' ∧ (ldE (.pointer (some ⟨w1.heap.size, 0, none⟩))).run Tryd.prog w' = .ok V w') (exact FS.out _ (by assumption)) (fail)
      all_goals (go_wp2_with fail; go_meet; first | exact ⟨_, _, _, rfl, rfl, rfl, by omega, by omega, by omega, by omega, by omega, by omega, T_012.out.1, T_012.out.2.1, T_012.out.2.2.1, T_012.out.2.2.2⟩ | exact ⟨_, _, _, rfl, rfl, rfl, by omega, by omega, by omega, by omega, by omega, by omega, T_021.out.1, T_021.out.2.2.1, T_021.out.2.1, T_021.out.2.2.2⟩ | exact ⟨_, _, _, rfl, rfl, rfl, by omega, by omega, by omega, by omega, by omega, by omega, T_102.out.2.1, T_102.out.1, T_102.out.2.2.1, T_102.out.2.2.2⟩ | exact ⟨_, _, _, rfl, rfl, rfl, by omega, by omega, by omega, by omega, by omega, by omega, T_120.out.2.1, T_120.out.2.2.1, T_120.out.1, T_120.out.2.2.2⟩ | exact ⟨_, _, _, rfl, rfl, rfl, by omega, by omega, by omega, by omega, by omega, by omega, T_201.out.2.2.1, T_201.out.1, T_201.out.2.1, T_201.out.2.2.2⟩ | exact ⟨_, _, _, rfl, rfl, rfl, by omega, by omega, by omega, by omega, by omega, by omega, T_210.out.2.2.1, T_210.out.2.1, T_210.out.1, T_210.out.2.2.2⟩)
    case rest =>
      obtain ⟨g7, g8, g9, rfl, rfl, rfl, h78, h79, h89, hg7, hg8, hg9, hb7, hb8, hb9, hq⟩ := hcut
      clear e_0 b_0 T_0 e_01 b_01 T_01 e_012 b_012 T_012 e_02 b_02 T_02 e_021 b_021 T_021 e_1 b_1 T_1 e_10 b_10 T_10 e_102 b_102 T_102 e_12 b_12 T_12 e_120 b_120 T_120 e_2 b_2 T_2 e_20 b_20 T_20 e_201 b_201 T_201 e_21 b_21 T_21 e_210 b_210 T_210 c0 c1' c2 c3 T_
      clear W_210 W_21 W_201 W_20 W_2 W_120 W_12 W_102 W_10 W_1 W_021 W_02 W_012 W_01 W_0
      have hxw := HK3.out.ext hq
      have hw13 := HK3.out.lt
      have dk : wc.cell? ⟨w1.heap.size, 0, none⟩ = some (.int .i64 x.kind) := hxw.cell 0
      have HX := Lib.hid hxw
      have H7 := Lib.hid hb7
      have H8 := Lib.hid hb8
      have H9 := Lib.hid hb9
      have HQ := Lib.hid hq
      have HR := Lib.hid HR3.out
      clear hxw hb7 hb8 hb9 hq HK3 FS HR3 hV
      go_upto_if 24 with fail
      go_cut [] from 22 to 61 (fun wx => ∃ xa : Ent, Bk wx g7 29 (#[.int .i64 xa.kind, .string xa.topic, .string xa.group, .int .i64 xa.part, .int .i64 xa.parts, .int .i64 xa.first, .int .i64 xa.off, .int .i64 xa.bat.time, .int .i64 xa.bat.prod, .int .i64 xa.bat.seq, .slice A1 n1 c1]) ∧ xa.bat.vals = x.bat.vals ∧ rightE xa = false ∧ Bk wx g8 29 #[.int .i64 x.kind, .string x.topic, .string x.group, .int .i64 x.part, .int .i64 x.parts, .int .i64 x.first, .int .i64 x.off, .int .i64 x.bat.time, .int .i64 x.bat.prod, .int .i64 x.bat.seq, .slice A1 n1 c1] ∧ Bk wx g9 29 #[.int .i64 x.kind, .string x.topic, .string x.group, .int .i64 x.part, .int .i64 x.parts, .int .i64 x.first, .int .i64 x.off, .int .i64 x.bat.time, .int .i64 x.bat.prod, .int .i64 x.bat.seq, .slice A1 n1 c1] ∧ Bk wx w1.heap.size 29 #[.int .i64 x.kind, .string x.topic, .string x.group, .int .i64 x.part, .int .i64 x.parts, .int .i64 x.first, .int .i64 x.off, .int .i64 x.bat.time, .int .i64 x.bat.prod, .int .i64 x.bat.seq, .slice A1 n1 c1] ∧ Below w3.heap.size w3 wx)
      case first =>
        by_cases hk4 : x.kind = 4
        · have hb4 : (x.kind == 4) = true := by rw [hk4]; rfl
          have f5 := H7.out.thaw 5
          have c5 : wc.cell? ⟨g7, 5, none⟩ = some (.int .i64 x.first) := H7.out.cell 5
          clear dk hk4
          have hk4 : x.kind = 4 := by simpa using hb4
          clear hk4
          go_wp2_with fail
          go_meet
          exact ⟨⟨x.kind, x.topic, x.group, x.part, x.parts, k, x.off, x.bat⟩, H7.out.put 5 _, rfl, only_first x (by simpa using hb4) k hwn.1, H8.out.far (p := ⟨g7, 5, none⟩) (Ne.symm h78) _, H9.out.far (p := ⟨g7, 5, none⟩) (Ne.symm h79) _, HX.out.far (p := ⟨g7, 5, none⟩) (by show w1.heap.size ≠ g7; omega) _, below_grown HQ.out HQ.out.size (grown_set wc ⟨g7, 5, none⟩ _) hg7⟩
        · have hb4 : (x.kind == 4) = false := by simpa using hk4
          have f2 := H7.out.thaw 2
          have c2 : wc.cell? ⟨g7, 2, none⟩ = some (.string x.group) := H7.out.cell 2
          clear dk
          have Hk4 := Lib.hid hk4
          clear hk4
          go_wp2_with fail
          go_meet
          exact ⟨⟨x.kind, x.topic, ⟨#[103]⟩, x.part, x.parts, x.first, x.off, x.bat⟩, H7.out.put 2 _, rfl, only_group x Hk4.out, H8.out.far (p := ⟨g7, 2, none⟩) (Ne.symm h78) _, H9.out.far (p := ⟨g7, 2, none⟩) (Ne.symm h79) _, HX.out.far (p := ⟨g7, 2, none⟩) (by show w1.heap.size ≠ g7; omega) _, below_grown HQ.out HQ.out.size (grown_set wc ⟨g7, 2, none⟩ _) hg7⟩
      case rest =>
        clear H7 H8 H9 HX HQ dk
        obtain ⟨xa, hb7, hva, hra, hb8, hb9, hxw, hq⟩ := hcut
        have dk : wc.cell? ⟨w1.heap.size, 0, none⟩ = some (.int .i64 x.kind) := hxw.cell 0
        have HX := Lib.hid hxw
        have H7 := Lib.hid hb7
        have H8 := Lib.hid hb8
        have H9 := Lib.hid hb9
        have HQ := Lib.hid hq
        have HVA := Lib.hid hva
        have HRA := Lib.hid hra
        clear hxw hb7 hb8 hb9 hq hva hra
        go_upto_if 30 with fail
        go_cut [] from 28 to 61 (fun wx => ∃ (xb : Ent) (Ab : Option Addr) (nb cb : Nat), Bk wx g8 29 #[.int .i64 xb.kind, .string xb.topic, .string xb.group, .int .i64 xb.part, .int .i64 xb.parts, .int .i64 xb.first, .int .i64 xb.off, .int .i64 xb.bat.time, .int .i64 xb.bat.prod, .int .i64 xb.bat.seq, .slice Ab nb cb] ∧ (∀ s, RdT (wx.setCell ⟨g9, 1, none⟩ s) Ab nb cb xb.bat.vals) ∧ rightE xb = false ∧ Bk wx g7 29 #[.int .i64 xa.kind, .string xa.topic, .string xa.group, .int .i64 xa.part, .int .i64 xa.parts, .int .i64 xa.first, .int .i64 xa.off, .int .i64 xa.bat.time, .int .i64 xa.bat.prod, .int .i64 xa.bat.seq, .slice A1 n1 c1] ∧ Bk wx g9 29 #[.int .i64 x.kind, .string x.topic, .string x.group, .int .i64 x.part, .int .i64 x.parts, .int .i64 x.first, .int .i64 x.off, .int .i64 x.bat.time, .int .i64 x.bat.prod, .int .i64 x.bat.seq, .slice A1 n1 c1] ∧ Bk wx w1.heap.size 29 #[.int .i64 x.kind, .string x.topic, .string x.group, .int .i64 x.part, .int .i64 x.parts, .int .i64 x.first, .int .i64 x.off, .int .i64 x.bat.time, .int .i64 x.bat.prod, .int .i64 x.bat.seq, .slice A1 n1 c1] ∧ Below w3.heap.size w3 wx)
        case first =>
          by_cases hk3 : x.kind = 3
          · have hb3 : (x.kind == 3) = true := by rw [hk3]; rfl
            have f6 := H8.out.thaw 6
            have c6 : wc.cell? ⟨g8, 6, none⟩ = some (.int .i64 x.off) := H8.out.cell 6
            have Hk3 := Lib.hid hk3
            clear dk hk3
            go_wp2_with fail
            go_meet
            have hbq := below_grown HQ.out HQ.out.size (grown_set wc ⟨g8, 6, none⟩ (.int .i64 k)) hg8
            exact ⟨⟨x.kind, x.topic, x.group, x.part, x.parts, x.first, k, x.bat⟩, A1, n1, c1, H8.out.put 6 _, fun s => RdT.ext HR.out (below_grown hbq hbq.size (grown_set _ ⟨g9, 1, none⟩ s) hg9), only_off x Hk3.out k hwn.1, H7.out.far (p := ⟨g8, 6, none⟩) h78 _, H9.out.far (p := ⟨g8, 6, none⟩) (Ne.symm h89) _, HX.out.far (p := ⟨g8, 6, none⟩) (by show w1.heap.size ≠ g8; omega) _, hbq⟩
          · have hb3 : (x.kind == 3) = false := by simpa using hk3
            have Hk3 := Lib.hid hk3
            have f10 := (H8.out.alloc (.cells #[.string ⟨#[120]⟩] 9)).thaw 10
            have c10 : (wc.alloc (.cells #[.string ⟨#[120]⟩] 9)).cell? ⟨g8, 10, none⟩ = some (.slice A1 n1 c1) := (H8.out.alloc _).cell 10
            have hlt8 := H8.out.lt
            clear dk hk3
            go_wp2_with fail
            go_meet
            have hbs := below_grown HQ.out HQ.out.size (grown_set wc ⟨g8, 10, none⟩ (.slice (some ⟨wc.heap.size, 0, none⟩) 1 1)) hg8
            have hbq := hbs.alloc hbs.size (.cells #[.string ⟨#[120]⟩] 9)
            have h9lt := H9.out.lt
            exact ⟨⟨x.kind, x.topic, x.group, x.part, x.parts, x.first, x.off, ⟨x.bat.time, x.bat.prod, x.bat.seq, [⟨#[120]⟩]⟩⟩, some ⟨wc.heap.size, 0, none⟩, 1, 1, (H8.out.put 10 _).alloc _, fun s => RdT.kept (RdT.one' _ _ _ _ (by simp)) (grown_set _ ⟨g9, 1, none⟩ s) (fun ad e e2 => by
              cases e
              have e3 := Option.some.inj e2
              dsimp only at e3
              omega), only_vals x Hk3.out, (H7.out.far (p := ⟨g8, 10, none⟩) h78 _).alloc _, (H9.out.far (p := ⟨g8, 10, none⟩) (Ne.symm h89) _).alloc _, (HX.out.far (p := ⟨g8, 10, none⟩) (by show w1.heap.size ≠ g8; omega) _).alloc _, hbq⟩
        case rest =>
          clear H7 H8 H9 HX HQ dk
          obtain ⟨xb, Ab, nb, cb, hb8, hrb, hrtb, hb7, hb9, hxw, hq⟩ := hcut
          have HQ := Lib.hid hq
          have hq9 := below_grown hq hq.size (grown_set wc ⟨g9, 1, none⟩ (.string ⟨#[84]⟩)) hg9
          have hb9n := Lib.hid hb9.lt
          have f1 := hb9.thaw 1
          have c1' : wc.cell? ⟨g9, 1, none⟩ = some (.string x.topic) := hb9.cell 1
          have hld := ldE_bk (hxw.far (p := ⟨g9, 1, none⟩) (by show w1.heap.size ≠ g9; omega) (.string ⟨#[84]⟩))
          have K9 := Lib.hid (show Bk (wc.setCell ⟨g9, 1, none⟩ (.string ⟨#[84]⟩)) g9 29 #[.int .i64 x.kind, .string ⟨#[84]⟩, .string x.group, .int .i64 x.part, .int .i64 x.parts, .int .i64 x.first, .int .i64 x.off, .int .i64 x.bat.time, .int .i64 x.bat.prod, .int .i64 x.bat.seq, .slice A1 n1 c1] from hb9.put 1 _)
          have K8 := Lib.hid (hb8.far (p := ⟨g9, 1, none⟩) h89 (.string ⟨#[84]⟩))
          have K7 := Lib.hid (hb7.far (p := ⟨g9, 1, none⟩) h79 (.string ⟨#[84]⟩))
          have KQ := Lib.hid hq9
          have KR := Lib.hid (hrb (.string ⟨#[84]⟩))
          have Hrb := Lib.hid hrtb
          have KX := Lib.hid (hxw.far (p := ⟨g9, 1, none⟩) (by show w1.heap.size ≠ g9; omega) (.string ⟨#[84]⟩))
          have HRx := Lib.hid (RdT.ext HR.out hq9)
          clear hb8 hb7 hb9 hxw hq hrb hrtb hq9 hld HR
          go_upto_region 13 with fail
          generalize wc.setCell ⟨g9, 1, none⟩ (.string ⟨#[84]⟩) = wd at K9 K8 K7 KQ KR KX HRx ⊢
          have hld := ldE_bk KX.out
          have hst := stE_newAt wd wd.heap.size rfl x.kind x.topic x.group x.part x.parts x.first x.off x.bat.time x.bat.prod x.bat.seq A1 n1 c1 #[.int .i64 0, .string ⟨#[]⟩, .string ⟨#[]⟩, .int .i64 0, .int .i64 0, .int .i64 0, .int .i64 0, .int .i64 0, .int .i64 0, .int .i64 0, .slice none 0 0] rfl
          have hbn := below_new wd (.cells #[.int .i64 x.kind, .string x.topic, .string x.group, .int .i64 x.part, .int .i64 x.parts, .int .i64 x.first, .int .i64 x.off, .int .i64 x.bat.time, .int .i64 x.bat.prod, .int .i64 x.bat.seq, .slice A1 n1 c1] 29)
          have hmd := Bk.made wd 29 #[.int .i64 x.kind, .string x.topic, .string x.group, .int .i64 x.part, .int .i64 x.parts, .int .i64 x.first, .int .i64 x.off, .int .i64 x.bat.time, .int .i64 x.bat.prod, .int .i64 x.bat.seq, .slice A1 n1 c1]
          have f0 := hmd.thaw 0
          have c0 : (wd.alloc (.cells #[.int .i64 x.kind, .string x.topic, .string x.group, .int .i64 x.part, .int .i64 x.parts, .int .i64 x.first, .int .i64 x.off, .int .i64 x.bat.time, .int .i64 x.bat.prod, .int .i64 x.bat.seq, .slice A1 n1 c1] 29)).cell? ⟨wd.heap.size, 0, none⟩ = some (.int .i64 x.kind) := hmd.cell 0
          have hwr : wrap64 (5 + k) = 5 + k := IntWalk.wrap64_in _ ⟨by omega, by omega⟩
          have Ld := Lib.hid (Bk.made wd 29 #[.int .i64 (5 + k), .string x.topic, .string x.group, .int .i64 x.part, .int .i64 x.parts, .int .i64 x.first, .int .i64 x.off, .int .i64 x.bat.time, .int .i64 x.bat.prod, .int .i64 x.bat.seq, .slice A1 n1 c1])
          have M9 := Lib.hid (K9.out.alloc (.cells #[.int .i64 (5 + k), .string x.topic, .string x.group, .int .i64 x.part, .int .i64 x.parts, .int .i64 x.first, .int .i64 x.off, .int .i64 x.bat.time, .int .i64 x.bat.prod, .int .i64 x.bat.seq, .slice A1 n1 c1] 29))
          have M8 := Lib.hid (K8.out.alloc (.cells #[.int .i64 (5 + k), .string x.topic, .string x.group, .int .i64 x.part, .int .i64 x.parts, .int .i64 x.first, .int .i64 x.off, .int .i64 x.bat.time, .int .i64 x.bat.prod, .int .i64 x.bat.seq, .slice A1 n1 c1] 29))
          have M7 := Lib.hid (K7.out.alloc (.cells #[.int .i64 (5 + k), .string x.topic, .string x.group, .int .i64 x.part, .int .i64 x.parts, .int .i64 x.first, .int .i64 x.off, .int .i64 x.bat.time, .int .i64 x.bat.prod, .int .i64 x.bat.seq, .slice A1 n1 c1] 29))
          have hbd := below_new wd (.cells #[.int .i64 (5 + k), .string x.topic, .string x.group, .int .i64 x.part, .int .i64 x.parts, .int .i64 x.first, .int .i64 x.off, .int .i64 x.bat.time, .int .i64 x.bat.prod, .int .i64 x.bat.seq, .slice A1 n1 c1] 29)
          have MR := Lib.hid (RdT.ext KR.out hbd)
          have MX := Lib.hid (RdT.ext HRx.out hbd)
          have MQ := Lib.hid ((HB3.out.trans (below_le HB3.out.size KQ.out)).trans (below_le (Nat.le_trans HB3.out.size KQ.out.size) hbd))
          clear hmd hbn hbd K9 K8 K7 KR KX HRx KQ
          go_upto_region 15 with fail
          have Hk1 := Lib.hid hwn.1
          clear f0 c0 hst hld
          generalize wd.alloc (.cells #[.int .i64 (5 + k), .string x.topic, .string x.group, .int .i64 x.part, .int .i64 x.parts, .int .i64 x.first, .int .i64 x.off, .int .i64 x.bat.time, .int .i64 x.bat.prod, .int .i64 x.bat.seq, .slice A1 n1 c1] 29) = we at M9 M8 M7 Ld MR MX MQ ⊢
          generalize wd.heap.size = gd at Ld ⊢
          have B0 := Lib.hid (Below.refl we.heap.size we)
          have ld0 := ldE_bk (M7.out.ext B0.out)
          have hR0 := Lib.hid (eRight_any xa A1 n1 c1 we (RdT.ext (by rw [HVA.out]; exact MX.out) B0.out) false HRA.out)
          go_wp2_with fail
          with_reducible refine hR0.out.mono ?_
          rintro er we1 ⟨rfl, hb1⟩
          have B1 := Lib.hid (B0.out.trans (below_le B0.out.size hb1))
          clear hb1 hR0 ld0
          have ld1 := ldE_bk (M8.out.ext B1.out)
          have hR1 := Lib.hid (eRight_any xb Ab nb cb we1 (RdT.ext MR.out B1.out) false Hrb.out)
          go_wp2_with fail
          with_reducible refine hR1.out.mono ?_
          rintro er we2 ⟨rfl, hb2⟩
          have B2 := Lib.hid (B1.out.trans (below_le B1.out.size hb2))
          clear hb2 hR1 ld1
          have ld2 := ldE_bk (M9.out.ext B2.out)
          have hR2 := Lib.hid (eRight_any ⟨x.kind, ⟨#[84]⟩, x.group, x.part, x.parts, x.first, x.off, x.bat⟩ A1 n1 c1 we2 (RdT.ext MX.out B2.out) false (only_topic x))
          go_wp2_with fail
          with_reducible refine hR2.out.mono ?_
          rintro er we3 ⟨rfl, hb3⟩
          have B3 := Lib.hid (B2.out.trans (below_le B2.out.size hb3))
          clear hb3 hR2 ld2
          have ld3 := ldE_bk (Ld.out.ext B3.out)
          have hR3 := Lib.hid (eRight_any ⟨5 + k, x.topic, x.group, x.part, x.parts, x.first, x.off, x.bat⟩ A1 n1 c1 we3 (RdT.ext MX.out B3.out) false (only_kind x k Hk1.out))
          go_wp2_with fail
          with_reducible refine hR3.out.mono ?_
          rintro er we4 ⟨rfl, hb4⟩
          have B4 := Lib.hid (B3.out.trans (below_le B3.out.size hb4))
          clear hb4 hR3 ld3
          go_wp2_with fail
          refine (entryRuns_any _).mono ?_
          rintro er wz ⟨rfl, hbz⟩
          go_wp2_with fail
          go_ret
          have bz := B4.out.trans (below_le B4.out.size hbz)
          exact ⟨rfl, MQ.out.trans (below_le MQ.out.size bz)⟩
end Go.Proofs.YtpfdbbcfcimmfaaDoor
