/-
  AskOnly: the walk.
-/
import Derived.Test.YtpfdbbcfcimmfaaGreatDoorAFew
import Derived.Test.YtpfdbbcfcimmfaaGreatDoorAKeep
import Derived.Test.YtpfdbbcfcimmfaaGreatDoorARuns
import Derived.Test.YtpfdbbcfcimmfaaGreatDoorAOnlyM
import Derived.Deep.CutRange
import Derived.Deep.RegionHeld3
import Derived.Deep.QuietTactic
import Derived.BigQuiet
namespace Go.Proofs.YtpfdbbcfcimmfaaGreatDoor
open Go.RowKit
attribute [local go_sem ↓] ldA_eq stA_eq
attribute [local go_sem] w8_nn w8_256 wrap_i64_w8 wrap64_w8 isA_drew isA_alloc isA_set1 isA_set2

set_option maxRecDepth 100000 in
set_option maxHeartbeats 8000000 in
theorem askOnly_w (e : Ask) (A : Option Addr) (n c : Nat) (z : Int) (hz : fitI z) (w : World) (hl : ErrLaid w) (hr : RdT w A n c e.bat.vals) :
    Calls Tryz.prog 7 #[.agg #[.int .i64 e.corr, .int .i64 e.kind, .string e.topic, .string e.group, .int .i64 e.part, .int .i64 e.parts, .int .i64 e.first, .int .i64 e.off, .int .i64 e.most, .int .i64 e.time, .int .i64 e.bat.time, .int .i64 e.bat.prod, .int .i64 e.bat.seq, .slice A n c], .int .i64 z] w fun er w' => er = .returned (.bool true) ∧ Below w.heap.size w w' := by
  have hbn := below_new w (.cells #[.int .i64 e.corr, .int .i64 e.kind, .string e.topic, .string e.group, .int .i64 e.part, .int .i64 e.parts, .int .i64 e.first, .int .i64 e.off, .int .i64 e.most, .int .i64 e.time, .int .i64 e.bat.time, .int .i64 e.bat.prod, .int .i64 e.bat.seq, .slice A n c] 47)
  have hld := ldA_bk (Bk.made w 47 #[.int .i64 e.corr, .int .i64 e.kind, .string e.topic, .string e.group, .int .i64 e.part, .int .i64 e.parts, .int .i64 e.first, .int .i64 e.off, .int .i64 e.most, .int .i64 e.time, .int .i64 e.bat.time, .int .i64 e.bat.prod, .int .i64 e.bat.seq, .slice A n c])
  have HF := Lib.hid (afew_any e A n c _ (hr.ext hbn))
  have HB0 := Lib.hid hbn
  have HL := Lib.hid hl
  clear hbn hr hl
  go_enter Tryz.func7, Tryz.ntmps7
  go_wp2_with fail
  with_reducible refine HF.out.mono ?_
  rintro er w1 ⟨x, A1, n1, c1, rfl, hr1, hb1⟩
  have hst1 := stA_newAt w1 w1.heap.size rfl x.corr x.kind x.topic x.group x.part x.parts x.first x.off x.most x.time x.bat.time x.bat.prod x.bat.seq A1 n1 c1 #[.int .i64 0, .int .i64 0, .string ⟨#[]⟩, .string ⟨#[]⟩, .int .i64 0, .int .i64 0, .int .i64 0, .int .i64 0, .int .i64 0, .int .i64 0, .int .i64 0, .int .i64 0, .int .i64 0, .slice none 0 0] rfl
  have hbn1 := below_new w1 (.cells #[.int .i64 x.corr, .int .i64 x.kind, .string x.topic, .string x.group, .int .i64 x.part, .int .i64 x.parts, .int .i64 x.first, .int .i64 x.off, .int .i64 x.most, .int .i64 x.time, .int .i64 x.bat.time, .int .i64 x.bat.prod, .int .i64 x.bat.seq, .slice A1 n1 c1] 47)
  have hk1 := Bk.made w1 47 #[.int .i64 x.corr, .int .i64 x.kind, .string x.topic, .string x.group, .int .i64 x.part, .int .i64 x.parts, .int .i64 x.first, .int .i64 x.off, .int .i64 x.most, .int .i64 x.time, .int .i64 x.bat.time, .int .i64 x.bat.prod, .int .i64 x.bat.seq, .slice A1 n1 c1]
  have hld1 := ldA_bk hk1
  have HK1 := Lib.hid hk1
  have HR1 := Lib.hid (RdT.ext hr1 hbn1)
  have HB1 := Lib.hid (HB0.out.trans (below_le HB0.out.size (hb1.trans (below_le hb1.size hbn1))))
  obtain ⟨r, hre⟩ : ∃ r, rightA x = r := ⟨_, rfl⟩
  have HRt := Lib.hid (aRight_any x A1 n1 c1 _ HR1.out r hre)
  have Hre := Lib.hid hre
  clear hk1 hr1 hb1 hbn1 HF HB0 hre
  go_wp2_with fail
  with_reducible refine HRt.out.mono ?_
  rintro er W ⟨rfl, hb2⟩
  have HK2 := Lib.hid (HK1.out.ext hb2)
  have HR2 := Lib.hid (RdT.ext HR1.out hb2)
  have HB2 := Lib.hid (HB1.out.trans (below_le HB1.out.size hb2))
  clear hst1 hld1 hld HRt HK1 HR1 HB1 hb2
  generalize w1.heap.size = g1 at HK2 ⊢
  cases r
  · have l2 := ldA_bk HK2.out
    have HP := Lib.hid (aPut_any x A1 n1 c1 W HR2.out)
    go_wp2_with fail
    with_reducible refine HP.out.mono ?_
    rintro er w3 ⟨A3, M3, c3, rfl, ho3, hb3⟩
    have h0 := ho3.rd.len
    rw [putA_no Hre.out] at h0
    obtain rfl : M3 = 0 := by simpa using h0.symm
    have HB3 := Lib.hid (HB2.out.trans (below_le HB2.out.size hb3))
    clear ho3 hb3 h0
    go_wp2_with fail
    refine (askRuns_any _ (ErrLaid.below HL.out HB3.out)).mono ?_
    rintro er wz ⟨rfl, hbz⟩
    go_wp2_with fail
    go_ret
    exact ⟨rfl, HB3.out.trans (below_le HB3.out.size hbz)⟩
  · have hwn := within_in z 1 9 (by omega)
    have HW := Lib.hid (within_any z 1 9 W (by omega) (by omega) (by omega) hz.1 hz.2)
    obtain ⟨k, hk⟩ : ∃ k, within z 1 9 = k := ⟨_, rfl⟩
    rw [hk] at hwn HW
    clear hk
    go_wp2_with fail
    with_reducible refine HW.out.mono ?_
    rintro er w4 ⟨rfl, rfl⟩
    have hlt1 := HK2.out.lt
    clear HW
    obtain ⟨r, hrr⟩ : ∃ r : Array Value, r = #[.int .i64 x.corr, .int .i64 x.kind, .string x.topic, .string x.group, .int .i64 x.part, .int .i64 x.parts, .int .i64 x.first, .int .i64 x.off, .int .i64 x.most, .int .i64 x.time, .int .i64 x.bat.time, .int .i64 x.bat.prod, .int .i64 x.bat.seq, .slice A1 n1 c1] := ⟨_, rfl⟩
    have hrs : r.size = 14 := by rw [hrr]; rfl
    have hstr : ∀ (w' : World) (G : Nat), (stA (.pointer (some ⟨G, 0, none⟩)) (.agg r)).run Tryz.prog w' = @ite _ (isA w' G) (Classical.propDecidable _) (.ok () (w'.setRow G r)) ((stA0 (.pointer (some ⟨G, 0, none⟩)) (.agg r)).run Tryz.prog w') := fun w' G => by
      rw [hrr]
      exact stA_if w' G x.corr x.kind x.topic x.group x.part x.parts x.first x.off x.most x.time x.bat.time x.bat.prod x.bat.seq A1 n1 c1
    have FS : Hid (∀ w', Below W.heap.size W w' → (Below W.heap.size W w' ∧ (ldA (.pointer (some ⟨g1, 0, none⟩))).run Tryz.prog w' = .ok (.agg r) w')) := fun w' hb => ⟨hb, by
      rw [hrr]
      exact ldA_bk (HK2.out.ext hb)⟩
    have KA : Hid (∀ (w' : World) (o : Obj) (R : Prop), Below W.heap.size W w' ∧ R → Below W.heap.size W (w'.alloc o)) := fun w' o R h => h.1.alloc h.1.size o
    have KD : Hid (∀ (w' : World) (o : Obj) (R : Prop), Below W.heap.size W w'.drew ∧ R → Below W.heap.size W (w'.alloc o).drew) := fun w' o R h => h.1.alloc h.1.size o
    have KR : Hid (∀ (w' : World) (g : Nat) (r : Array Value) (R : Prop), Below W.heap.size W w' ∧ R → W.heap.size ≤ g → Below W.heap.size W (w'.setRow g r)) := fun w' g r R h hg => below_row h.1 h.1.size hg r
    have KE : Hid (∀ (w' : World) (g : Nat) (r : Array Value) (R : Prop), Below W.heap.size W w'.drew ∧ R → W.heap.size ≤ g → Below W.heap.size W (w'.setRow g r).drew) := fun w' g r R h hg => below_row h.1 h.1.size hg r
    have Hrr := Lib.hid hrr
    clear hrr
    go_upto_region 5 with fail
    go_cut [7, 8, 9, 10] from 25 to 82 (fun s7 s8 s9 s10 wx => ∃ g7 g8 g9 g10, s7 = .pointer (some ⟨g7, 0, none⟩) ∧ s8 = .pointer (some ⟨g8, 0, none⟩) ∧ s9 = .pointer (some ⟨g9, 0, none⟩) ∧ s10 = .pointer (some ⟨g10, 0, none⟩) ∧ (g7 ≠ g8 ∧ g7 ≠ g9 ∧ g7 ≠ g10 ∧ g8 ≠ g9 ∧ g8 ≠ g10 ∧ g9 ≠ g10) ∧ (W.heap.size ≤ g7 ∧ W.heap.size ≤ g8 ∧ W.heap.size ≤ g9 ∧ W.heap.size ≤ g10) ∧ Four wx g7 g8 g9 g10 r ∧ Below W.heap.size W wx)
    case first =>
      go_region_held3 (fun w' => Below W.heap.size W w' ∧ (ldA (.pointer (some ⟨g1, 0, none⟩))).run Tryz.prog w' = .ok (.agg r) w') (first | with_reducible exact FS.out _ (KR.out _ _ _ _ (by assumption) (by omega)) | with_reducible exact FS.out _ (KE.out _ _ _ _ (by assumption) (by omega)) | with_reducible exact FS.out _ (KA.out _ _ _ (by assumption)) | with_reducible exact FS.out _ (KD.out _ _ _ (by assumption)) | exact FS.out _ (below_drew1 (Below.refl _ _))) (first | fail)
      all_goals (go_wp2_with fail; go_meet; exact ⟨_, _, _, _, rfl, rfl, rfl, rfl, ⟨by omega, by omega, by omega, by omega, by omega, by omega⟩, ⟨by omega, by omega, by omega, by omega⟩, Four.made (by simp [isA_alloc, isA_drew]) (by simp [isA_alloc, isA_drew]) (by simp [isA_alloc, isA_drew]) (by simp [isA_alloc, isA_drew]) (by omega) (by omega) (by omega) (by omega) (by omega) (by omega), (‹Below W.heap.size W _ ∧ _›).1⟩)
    case rest =>
      obtain ⟨g7, g8, g9, g10, rfl, rfl, rfl, rfl, ⟨n78, n79, n7a, n89, n8a, n9a⟩, ⟨q7, q8, q9, q10⟩, h4, hq⟩ := hcut
      have hrr := Hrr.out
      subst hrr
      have H7 := Lib.hid h4.k7
      have H8 := Lib.hid h4.k8
      have H9 := Lib.hid h4.k9
      have H10 := Lib.hid h4.k10
      have HX := Lib.hid (HK2.out.ext hq)
      have HQ := Lib.hid hq
      have dk : wc.cell? ⟨g1, 1, none⟩ = some (.int .i64 x.kind) := HX.out.cell 1
      clear FS KA KD KR KE hstr hrs Hrr h4 hq
      go_upto_if 31 with fail
      go_cut [] from 29 to 82 (fun wx => ∃ xa : Ask, Bk wx g7 47 #[.int .i64 xa.corr, .int .i64 xa.kind, .string xa.topic, .string xa.group, .int .i64 xa.part, .int .i64 xa.parts, .int .i64 xa.first, .int .i64 xa.off, .int .i64 xa.most, .int .i64 xa.time, .int .i64 xa.bat.time, .int .i64 xa.bat.prod, .int .i64 xa.bat.seq, .slice A1 n1 c1] ∧ xa.bat.vals = x.bat.vals ∧ rightA xa = false ∧ Bk wx g8 47 #[.int .i64 x.corr, .int .i64 x.kind, .string x.topic, .string x.group, .int .i64 x.part, .int .i64 x.parts, .int .i64 x.first, .int .i64 x.off, .int .i64 x.most, .int .i64 x.time, .int .i64 x.bat.time, .int .i64 x.bat.prod, .int .i64 x.bat.seq, .slice A1 n1 c1] ∧ Bk wx g9 47 #[.int .i64 x.corr, .int .i64 x.kind, .string x.topic, .string x.group, .int .i64 x.part, .int .i64 x.parts, .int .i64 x.first, .int .i64 x.off, .int .i64 x.most, .int .i64 x.time, .int .i64 x.bat.time, .int .i64 x.bat.prod, .int .i64 x.bat.seq, .slice A1 n1 c1] ∧ Bk wx g10 47 #[.int .i64 x.corr, .int .i64 x.kind, .string x.topic, .string x.group, .int .i64 x.part, .int .i64 x.parts, .int .i64 x.first, .int .i64 x.off, .int .i64 x.most, .int .i64 x.time, .int .i64 x.bat.time, .int .i64 x.bat.prod, .int .i64 x.bat.seq, .slice A1 n1 c1] ∧ Bk wx g1 47 #[.int .i64 x.corr, .int .i64 x.kind, .string x.topic, .string x.group, .int .i64 x.part, .int .i64 x.parts, .int .i64 x.first, .int .i64 x.off, .int .i64 x.most, .int .i64 x.time, .int .i64 x.bat.time, .int .i64 x.bat.prod, .int .i64 x.bat.seq, .slice A1 n1 c1] ∧ Below W.heap.size W wx)
      case first =>
        by_cases hk7 : x.kind = 7
        · have hb7 : (x.kind == 7) = true := by rw [hk7]; rfl
          have f9 := H7.out.thaw 9
          have c9 : wc.cell? ⟨g7, 9, none⟩ = some (.int .i64 x.time) := H7.out.cell 9
          have Hk7 := Lib.hid hk7
          clear dk hk7
          go_wp2_with fail
          go_meet
          exact ⟨⟨x.corr, x.kind, x.topic, x.group, x.part, x.parts, x.first, x.off, x.most, k, x.bat⟩, H7.out.put 9 _, rfl, onlyA_time x Hk7.out k hwn.1, H8.out.far (p := ⟨g7, 9, none⟩) (Ne.symm n78) _, H9.out.far (p := ⟨g7, 9, none⟩) (Ne.symm n79) _, H10.out.far (p := ⟨g7, 9, none⟩) (Ne.symm n7a) _, HX.out.far (p := ⟨g7, 9, none⟩) (by show g1 ≠ g7; omega) _, below_grown HQ.out HQ.out.size (grown_set wc ⟨g7, 9, none⟩ _) q7⟩
        · have hb7 : (x.kind == 7) = false := by simpa using hk7
          have f8 := H7.out.thaw 8
          have c8 : wc.cell? ⟨g7, 8, none⟩ = some (.int .i64 x.most) := H7.out.cell 8
          have Hk7 := Lib.hid hk7
          clear dk hk7
          go_wp2_with fail
          go_meet
          exact ⟨⟨x.corr, x.kind, x.topic, x.group, x.part, x.parts, x.first, x.off, k, x.time, x.bat⟩, H7.out.put 8 _, rfl, onlyA_most x Hk7.out k hwn.1, H8.out.far (p := ⟨g7, 8, none⟩) (Ne.symm n78) _, H9.out.far (p := ⟨g7, 8, none⟩) (Ne.symm n79) _, H10.out.far (p := ⟨g7, 8, none⟩) (Ne.symm n7a) _, HX.out.far (p := ⟨g7, 8, none⟩) (by show g1 ≠ g7; omega) _, below_grown HQ.out HQ.out.size (grown_set wc ⟨g7, 8, none⟩ _) q7⟩
      case rest =>
        clear H7 H8 H9 H10 HX HQ dk
        obtain ⟨xa, hb7, hva, hra, hb8, hb9, hb10, hxw, hq⟩ := hcut
        have dk : wc.cell? ⟨g1, 1, none⟩ = some (.int .i64 x.kind) := hxw.cell 1
        have HX := Lib.hid hxw
        have H7 := Lib.hid hb7
        have H8 := Lib.hid hb8
        have H9 := Lib.hid hb9
        have H10 := Lib.hid hb10
        have HQ := Lib.hid hq
        have HVA := Lib.hid hva
        have HRA := Lib.hid hra
        clear hxw hb7 hb8 hb9 hb10 hq hva hra
        go_upto_region 9 with fail
        go_cut [43] from 36 to 82 (fun s43 wx => s43 = .bool (decide (x.kind = 4 ∨ x.kind = 9)) ∧ wc = wx)
        case first =>
          by_cases h4 : x.kind = 4
          · have q4 : (x.kind == 4) = true := by simp [h4]
            have e4 : decide (x.kind = 4 ∨ x.kind = 9) = true := decide_eq_true (.inl h4)
            have E4 := Lib.hid e4
            clear h4 e4
            go_wp2_with fail
            go_meet
            exact ⟨by rw [E4.out], rfl⟩
          · have q4 : (x.kind == 4) = false := by simp [h4]
            by_cases h9 : x.kind = 9
            · have q9 : (x.kind == 9) = true := by simp [h9]
              have e4 : decide (x.kind = 4 ∨ x.kind = 9) = true := decide_eq_true (.inr h9)
              have E4 := Lib.hid e4
              clear h4 h9 e4
              go_wp2_with fail
              go_meet
              exact ⟨by rw [E4.out], rfl⟩
            · have q9 : (x.kind == 9) = false := by simp [h9]
              have e4 : decide (x.kind = 4 ∨ x.kind = 9) = false := decide_eq_false (by omega)
              have E4 := Lib.hid e4
              clear h4 h9 e4
              go_wp2_with fail
              go_meet
              exact ⟨by rw [E4.out], rfl⟩
        case rest =>
          obtain ⟨rfl, rfl⟩ := hcut
          go_upto_if 43 with fail
          go_cut [] from 43 to 82 (fun wx => ∃ xb : Ask, Bk wx g8 47 #[.int .i64 xb.corr, .int .i64 xb.kind, .string xb.topic, .string xb.group, .int .i64 xb.part, .int .i64 xb.parts, .int .i64 xb.first, .int .i64 xb.off, .int .i64 xb.most, .int .i64 xb.time, .int .i64 xb.bat.time, .int .i64 xb.bat.prod, .int .i64 xb.bat.seq, .slice A1 n1 c1] ∧ xb.bat.vals = x.bat.vals ∧ rightA xb = false ∧ Bk wx g7 47 #[.int .i64 xa.corr, .int .i64 xa.kind, .string xa.topic, .string xa.group, .int .i64 xa.part, .int .i64 xa.parts, .int .i64 xa.first, .int .i64 xa.off, .int .i64 xa.most, .int .i64 xa.time, .int .i64 xa.bat.time, .int .i64 xa.bat.prod, .int .i64 xa.bat.seq, .slice A1 n1 c1] ∧ Bk wx g9 47 #[.int .i64 x.corr, .int .i64 x.kind, .string x.topic, .string x.group, .int .i64 x.part, .int .i64 x.parts, .int .i64 x.first, .int .i64 x.off, .int .i64 x.most, .int .i64 x.time, .int .i64 x.bat.time, .int .i64 x.bat.prod, .int .i64 x.bat.seq, .slice A1 n1 c1] ∧ Bk wx g10 47 #[.int .i64 x.corr, .int .i64 x.kind, .string x.topic, .string x.group, .int .i64 x.part, .int .i64 x.parts, .int .i64 x.first, .int .i64 x.off, .int .i64 x.most, .int .i64 x.time, .int .i64 x.bat.time, .int .i64 x.bat.prod, .int .i64 x.bat.seq, .slice A1 n1 c1] ∧ Bk wx g1 47 #[.int .i64 x.corr, .int .i64 x.kind, .string x.topic, .string x.group, .int .i64 x.part, .int .i64 x.parts, .int .i64 x.first, .int .i64 x.off, .int .i64 x.most, .int .i64 x.time, .int .i64 x.bat.time, .int .i64 x.bat.prod, .int .i64 x.bat.seq, .slice A1 n1 c1] ∧ Below W.heap.size W wx)
          case first =>
            by_cases hp : x.kind = 4 ∨ x.kind = 9
            · have e4 : decide (x.kind = 4 ∨ x.kind = 9) = true := decide_eq_true hp
              have f5 := H8.out.thaw 5
              have c5 : wc.cell? ⟨g8, 5, none⟩ = some (.int .i64 x.parts) := H8.out.cell 5
              have Hp := Lib.hid hp
              rw [e4]
              clear dk hp e4
              go_wp2_with fail
              go_meet
              exact ⟨⟨x.corr, x.kind, x.topic, x.group, x.part, k, x.first, x.off, x.most, x.time, x.bat⟩, H8.out.put 5 _, rfl, onlyA_parts x Hp.out k hwn.1, H7.out.far (p := ⟨g8, 5, none⟩) n78 _, H9.out.far (p := ⟨g8, 5, none⟩) (Ne.symm n89) _, H10.out.far (p := ⟨g8, 5, none⟩) (Ne.symm n8a) _, HX.out.far (p := ⟨g8, 5, none⟩) (by show g1 ≠ g8; omega) _, below_grown HQ.out HQ.out.size (grown_set wc ⟨g8, 5, none⟩ _) q8⟩
            · have e4 : decide (x.kind = 4 ∨ x.kind = 9) = false := decide_eq_false hp
              have f3 := H8.out.thaw 3
              have c3 : wc.cell? ⟨g8, 3, none⟩ = some (.string x.group) := H8.out.cell 3
              have Hp := Lib.hid hp
              rw [e4]
              clear dk hp e4
              go_wp2_with fail
              go_meet
              exact ⟨⟨x.corr, x.kind, x.topic, ⟨#[103]⟩, x.part, x.parts, x.first, x.off, x.most, x.time, x.bat⟩, H8.out.put 3 _, rfl, onlyA_group x (fun h => Hp.out (.inl h)) (fun h => Hp.out (.inr h)), H7.out.far (p := ⟨g8, 3, none⟩) n78 _, H9.out.far (p := ⟨g8, 3, none⟩) (Ne.symm n89) _, H10.out.far (p := ⟨g8, 3, none⟩) (Ne.symm n8a) _, HX.out.far (p := ⟨g8, 3, none⟩) (by show g1 ≠ g8; omega) _, below_grown HQ.out HQ.out.size (grown_set wc ⟨g8, 3, none⟩ _) q8⟩
          case rest =>
            clear H7 H8 H9 H10 HX HQ dk
            obtain ⟨xb, hb8, hvb, hrb, hb7, hb9, hb10, hxw, hq⟩ := hcut
            have f0 := hb9.thaw 0
            have c0 : wc.cell? ⟨g9, 0, none⟩ = some (.int .i64 x.corr) := hb9.cell 0
            have hneg : wrap64 (-k) = -k := IntWalk.wrap64_in _ ⟨by omega, by omega⟩
            have hnin : wrap64 (9 + k) = 9 + k := IntWalk.wrap64_in _ ⟨by omega, by omega⟩
            have h10' := hb10.far (p := ⟨g9, 0, none⟩) (Ne.symm n9a) (.int .i64 (-k))
            have f1 := h10'.thaw 1
            have c1' : (wc.setCell ⟨g9, 0, none⟩ (.int .i64 (-k))).cell? ⟨g10, 1, none⟩ = some (.int .i64 x.kind) := h10'.cell 1
            have hqa := below_grown hq hq.size (grown_set wc ⟨g9, 0, none⟩ (.int .i64 (-k))) q9
            have hqb := below_grown hqa hqa.size (grown_set _ ⟨g10, 1, none⟩ (.int .i64 (9 + k))) q10
            have K9 := Lib.hid (show Bk ((wc.setCell ⟨g9, 0, none⟩ (.int .i64 (-k))).setCell ⟨g10, 1, none⟩ (.int .i64 (9 + k))) g9 47 #[.int .i64 (-k), .int .i64 x.kind, .string x.topic, .string x.group, .int .i64 x.part, .int .i64 x.parts, .int .i64 x.first, .int .i64 x.off, .int .i64 x.most, .int .i64 x.time, .int .i64 x.bat.time, .int .i64 x.bat.prod, .int .i64 x.bat.seq, .slice A1 n1 c1] from (hb9.put 0 (.int .i64 (-k))).far (p := ⟨g10, 1, none⟩) n9a _)
            have K10 := Lib.hid (show Bk ((wc.setCell ⟨g9, 0, none⟩ (.int .i64 (-k))).setCell ⟨g10, 1, none⟩ (.int .i64 (9 + k))) g10 47 #[.int .i64 x.corr, .int .i64 (9 + k), .string x.topic, .string x.group, .int .i64 x.part, .int .i64 x.parts, .int .i64 x.first, .int .i64 x.off, .int .i64 x.most, .int .i64 x.time, .int .i64 x.bat.time, .int .i64 x.bat.prod, .int .i64 x.bat.seq, .slice A1 n1 c1] from h10'.put 1 (.int .i64 (9 + k)))
            have K7 := Lib.hid ((hb7.far (p := ⟨g9, 0, none⟩) n79 (.int .i64 (-k))).far (p := ⟨g10, 1, none⟩) n7a (.int .i64 (9 + k)))
            have K8 := Lib.hid ((hb8.far (p := ⟨g9, 0, none⟩) n89 (.int .i64 (-k))).far (p := ⟨g10, 1, none⟩) n8a (.int .i64 (9 + k)))
            have KX := Lib.hid ((hxw.far (p := ⟨g9, 0, none⟩) (by show g1 ≠ g9; omega) (.int .i64 (-k))).far (p := ⟨g10, 1, none⟩) (by show g1 ≠ g10; omega) (.int .i64 (9 + k)))
            have KR' := Lib.hid (RdT.ext HR2.out hqb)
            have KQ := Lib.hid (HB2.out.trans (below_le HB2.out.size hqb))
            have HVB := Lib.hid hvb
            have HRB := Lib.hid hrb
            clear hb7 hb8 hb9 hb10 hxw hq hqa hqb h10' hvb hrb
            go_upto_region 14 with fail
            clear f0 c0 f1 c1' hneg hnin
            generalize (wc.setCell ⟨g9, 0, none⟩ (.int .i64 (-k))).setCell ⟨g10, 1, none⟩ (.int .i64 (9 + k)) = we at K7 K8 K9 K10 KX KR' KQ ⊢
            have Hk1 := Lib.hid hwn.1
            have l7 := fun t : Ext we => ldA_bk (K7.out.ext t.below)
            have l8 := fun t : Ext we => ldA_bk (K8.out.ext t.below)
            have l9 := fun t : Ext we => ldA_bk (K9.out.ext t.below)
            have l10 := fun t : Ext we => ldA_bk (K10.out.ext t.below)
            have dk : ∀ t : Ext we, t.w.cell? ⟨g1, 1, none⟩ = some (.int .i64 x.kind) := fun t => (KX.out.ext t.below).cell 1
            have hL := ErrLaid.below HL.out KQ.out
            have hRuns := Lib.hid (fun t : Ext we => ext_of (askRuns_any t.w (ErrLaid.below hL t.below)))
            have hR7 := Lib.hid (fun t : Ext we => ext_of (aRight_any xa A1 n1 c1 t.w (by rw [HVA.out]; exact RdT.ext KR'.out t.below) false HRA.out))
            have hR8 := Lib.hid (fun t : Ext we => ext_of (aRight_any xb A1 n1 c1 t.w (by rw [HVB.out]; exact RdT.ext KR'.out t.below) false HRB.out))
            have hR9 := Lib.hid (fun t : Ext we => ext_of (show Calls Tryz.prog 26 #[.agg #[.int .i64 (-k), .int .i64 x.kind, .string x.topic, .string x.group, .int .i64 x.part, .int .i64 x.parts, .int .i64 x.first, .int .i64 x.off, .int .i64 x.most, .int .i64 x.time, .int .i64 x.bat.time, .int .i64 x.bat.prod, .int .i64 x.bat.seq, .slice A1 n1 c1]] t.w (fun er w' => er = .returned (.bool false) ∧ Below t.w.heap.size t.w w') from aRight_any ⟨(-k), x.kind, x.topic, x.group, x.part, x.parts, x.first, x.off, x.most, x.time, x.bat⟩ A1 n1 c1 t.w (RdT.ext KR'.out t.below) false (onlyA_corr x k Hk1.out)))
            have hR10 := Lib.hid (fun t : Ext we => ext_of (show Calls Tryz.prog 26 #[.agg #[.int .i64 x.corr, .int .i64 (9 + k), .string x.topic, .string x.group, .int .i64 x.part, .int .i64 x.parts, .int .i64 x.first, .int .i64 x.off, .int .i64 x.most, .int .i64 x.time, .int .i64 x.bat.time, .int .i64 x.bat.prod, .int .i64 x.bat.seq, .slice A1 n1 c1]] t.w (fun er w' => er = .returned (.bool false) ∧ Below t.w.heap.size t.w w') from aRight_any ⟨x.corr, (9 + k), x.topic, x.group, x.part, x.parts, x.first, x.off, x.most, x.time, x.bat⟩ A1 n1 c1 t.w (RdT.ext KR'.out t.below) false (onlyA_kind x k Hk1.out)))
            have hkr := right_kindA Hre.out
            have h5 : (x.kind ≤ 5 ∧ writK x.kind = true) ∨ (¬ x.kind ≤ 5 ∧ writK x.kind = false) := by
              by_cases h : x.kind ≤ 5
              · exact .inl ⟨h, writ_iff.2 ⟨hkr.1, h⟩⟩
              · refine .inr ⟨h, ?_⟩
                cases hw : writK x.kind
                · rfl
                · exact (h (writ_iff.1 hw).2).elim
            clear hL hkr
            rcases h5 with ⟨hle, hw⟩ | ⟨hle, hw⟩
            case' inl =>
              have hWr := Lib.hid (fun t : Ext we => ext_of_same (writes_at x.kind true hw t.w))
              have hd5 : decide (x.kind ≤ 5) = true := decide_eq_true hle
            case' inr =>
              have hWr := Lib.hid (fun t : Ext we => ext_of_same (writes_at x.kind false hw t.w))
              have hd5 : decide (x.kind ≤ 5) = false := decide_eq_false hle
            all_goals
              clear hw
              refine wp_region_ext (by kernel_rfl) (by kernel_rfl) ?_
              repeat (go_big_quiet_step (first | (go_at_call 26; first | with_reducible exact hR7.out _ | with_reducible exact hR8.out _ | with_reducible exact hR9.out _ | with_reducible exact hR10.out _) | (go_at_call 28; with_reducible exact hWr.out _) | (go_at_call 4; with_reducible exact hRuns.out _)))
              refine wpQuiet_nil ?_
              intro _ hw'
              obtain ⟨t, hw''⟩ := hw'
              subst hw''
              go_wp2
              go_ret
              exact ⟨rfl, KQ.out.trans (below_le KQ.out.size t.below)⟩
end Go.Proofs.YtpfdbbcfcimmfaaGreatDoor
