/-
  AskTells: the walk.
-/
import Derived.Test.YtpfdbbcfcimmfaaGreatDoorAFew
import Derived.Test.YtpfdbbcfcimmfaaGreatDoorARef3
import Derived.Test.YtpfdbbcfcimmfaaGreatDoorARef4
import Derived.Test.YtpfdbbcfcimmfaaGreatDoorRBook
import Derived.Test.YtpfdbbcfcimmfaaGreatDoorARuns
import Derived.Test.YtpfdbbcfcimmfaaGreatDoorAErr3
import Derived.Deep.CutRange
import Derived.Deep.RegionHeld3
namespace Go.Proofs.YtpfdbbcfcimmfaaGreatDoor
open Go.RowKit
attribute [local go_sem ↓] ldB_eq stB_eq ldE_eq stE_eq ldA_eq stA_eq
attribute [local go_sem] w8_nn w8_256 wrap_i64_w8 wrap64_w8 pastA_zero xor_u8

/-- the two answers agree: the same ask, the same kind of error -/
theorem get_bothA {l : List UInt8} {x h' : Ask} {v6 : Value} {k7 : Int} (h6 : (v6 = .nilIface ∧ getA l = .ok x) ∨ ∃ co e d, x = noA.num co ∧ d ≤ 2 ∧ IsErr (d + 1) v6 e ∧ getA l = .error (co, e)) (h7 : (k7 = 0 ∧ getA l = .ok h') ∨ ∃ co, h' = noA.num co ∧ k7 ≠ 0 ∧ getA l = .error (co, k7)) :
    ∃ kk, h' = x ∧ k7 = kk ∧ Hid (∀ w', ErrLaid w' → Calls Tryz.prog 20 #[v6] w' fun er w'' => er = .returned (.int .i64 kk) ∧ Below w'.heap.size w' w'') := by
  rcases h6 with ⟨h6, hok⟩ | ⟨co, e, d, h6, hd, hke, hge⟩
  · rcases h7 with ⟨h8, h2⟩ | ⟨co, _, _, h2⟩
    · rw [hok] at h2
      injection h2 with h2
      rw [h6]
      exact ⟨0, h2.symm, h8, fun w' _ => kind_nil w'⟩
    · rw [hok] at h2
      cases h2
  · rcases h7 with ⟨_, h2⟩ | ⟨co', h8, _, h2⟩
    · rw [hge] at h2
      cases h2
    · rw [hge] at h2
      injection h2 with h2
      injection h2 with h2 h3
      exact ⟨e, by rw [h8, h6, h2], h3.symm, fun w' hg => kind_err3 hke hd w' hg⟩
set_option maxRecDepth 100000 in
set_option maxHeartbeats 4000000 in
theorem askTells_w (e : Ask) (A : Option Addr) (n c : Nat) (Ab : Option Addr) (nb cb : Nat) (lb : List UInt8) (z : Int) (hz : fitI z) (b0 : UInt8) (w : World) (hr : RdT w A n c e.bat.vals) (hb : RdB w Ab nb cb lb) (hg : ErrLaid w) :
    Calls Tryz.prog 5 #[.agg #[.int .i64 e.corr, .int .i64 e.kind, .string e.topic, .string e.group, .int .i64 e.part, .int .i64 e.parts, .int .i64 e.first, .int .i64 e.off, .int .i64 e.most, .int .i64 e.time, .int .i64 e.bat.time, .int .i64 e.bat.prod, .int .i64 e.bat.seq, .slice A n c], .slice Ab nb cb, .int .i64 z, .int .u8 (w8 b0)] w fun er w' => er = .returned (.bool true) ∧ Below w.heap.size w w' := by
  have hbn := below_new w (.cells #[.int .i64 e.corr, .int .i64 e.kind, .string e.topic, .string e.group, .int .i64 e.part, .int .i64 e.parts, .int .i64 e.first, .int .i64 e.off, .int .i64 e.most, .int .i64 e.time, .int .i64 e.bat.time, .int .i64 e.bat.prod, .int .i64 e.bat.seq, .slice A n c] 47)
  have hld := ldA_bk (Bk.made w 47 #[.int .i64 e.corr, .int .i64 e.kind, .string e.topic, .string e.group, .int .i64 e.part, .int .i64 e.parts, .int .i64 e.first, .int .i64 e.off, .int .i64 e.most, .int .i64 e.time, .int .i64 e.bat.time, .int .i64 e.bat.prod, .int .i64 e.bat.seq, .slice A n c])
  have HF := Lib.hid (afew_any e A n c _ (hr.ext hbn))
  have HB0 := Lib.hid hbn
  have HRb := Lib.hid hb
  have hnb1 := hb.cap
  have hnb2 := hb.big
  have Hg := Lib.hid hg
  clear hbn hr hb hg
  go_enter Tryz.func5, Tryz.ntmps5
  go_wp2_with fail
  with_reducible refine HF.out.mono ?_
  rintro er w1 ⟨y, A1, n1, c1, rfl, hr1, hb1⟩
  have hst1 := stA_newAt w1 w1.heap.size rfl y.corr y.kind y.topic y.group y.part y.parts y.first y.off y.most y.time y.bat.time y.bat.prod y.bat.seq A1 n1 c1 #[.int .i64 0, .int .i64 0, .string ⟨#[]⟩, .string ⟨#[]⟩, .int .i64 0, .int .i64 0, .int .i64 0, .int .i64 0, .int .i64 0, .int .i64 0, .int .i64 0, .int .i64 0, .int .i64 0, .slice none 0 0] rfl
  have hbn1 := below_new w1 (.cells #[.int .i64 y.corr, .int .i64 y.kind, .string y.topic, .string y.group, .int .i64 y.part, .int .i64 y.parts, .int .i64 y.first, .int .i64 y.off, .int .i64 y.most, .int .i64 y.time, .int .i64 y.bat.time, .int .i64 y.bat.prod, .int .i64 y.bat.seq, .slice A1 n1 c1] 47)
  have HK1 := Lib.hid (Bk.made w1 47 #[.int .i64 y.corr, .int .i64 y.kind, .string y.topic, .string y.group, .int .i64 y.part, .int .i64 y.parts, .int .i64 y.first, .int .i64 y.off, .int .i64 y.most, .int .i64 y.time, .int .i64 y.bat.time, .int .i64 y.bat.prod, .int .i64 y.bat.seq, .slice A1 n1 c1])
  have hld1 := ldA_bk HK1.out
  have HR1 := Lib.hid (RdT.ext hr1 hbn1)
  have HB1 := Lib.hid ((HB0.out.trans (below_le HB0.out.size hb1)).trans (below_le (Nat.le_trans HB0.out.size hb1.size) hbn1))
  have HP := Lib.hid (aPut_any y A1 n1 c1 _ HR1.out)
  clear hld hr1 hb1 hbn1 HF HB0
  go_wp2_with fail
  with_reducible refine HP.out.mono ?_
  rintro er w2 ⟨A2, M2, c2, rfl, ho2, hb2⟩
  have HK2 := Lib.hid (HK1.out.ext hb2)
  have HY2 := Lib.hid (RdT.ext HR1.out hb2)
  have HB2 := Lib.hid (HB1.out.trans (below_le HB1.out.size hb2))
  have HRd2 := Lib.hid ho2.rd
  have hM2 := Lib.hid ho2.rd.len
  have hM3 := Lib.hid (putA_len y)
  clear ho2 hb2 HP hst1 hld1 HK1 HR1 HB1
  obtain ⟨r, hre⟩ : ∃ r, rightA y = r := ⟨_, rfl⟩
  have HC1 : Hid (∀ (w' : World) (R : Prop), Below w2.heap.size w2 w' ∧ R → Calls Tryz.prog 26 #[.agg #[.int .i64 y.corr, .int .i64 y.kind, .string y.topic, .string y.group, .int .i64 y.part, .int .i64 y.parts, .int .i64 y.first, .int .i64 y.off, .int .i64 y.most, .int .i64 y.time, .int .i64 y.bat.time, .int .i64 y.bat.prod, .int .i64 y.bat.seq, .slice A1 n1 c1]] w' fun er w'' => er = .returned (.bool r) ∧ Below w'.heap.size w' w'') := fun w' R h => aRight_any y A1 n1 c1 w' (RdT.ext HY2.out h.1) r hre
  have HC2 : Hid (∀ (w' : World) (R : Prop), Below w2.heap.size w2 w' ∧ R → Calls Tryz.prog 27 #[.agg #[.int .i64 y.corr, .int .i64 y.kind, .string y.topic, .string y.group, .int .i64 y.part, .int .i64 y.parts, .int .i64 y.first, .int .i64 y.off, .int .i64 y.most, .int .i64 y.time, .int .i64 y.bat.time, .int .i64 y.bat.prod, .int .i64 y.bat.seq, .slice A1 n1 c1]] w' fun er w'' => er = .returned (.bool r) ∧ Below w'.heap.size w' w'') := fun w' R h => refRightA_any y A1 n1 c1 w' (RdT.ext HY2.out h.1) r hre
  have HC3 : Hid (∀ (w' : World) (R : Prop), Below w2.heap.size w2 w' ∧ R → Calls Tryz.prog 32 #[.agg #[.int .i64 y.corr, .int .i64 y.kind, .string y.topic, .string y.group, .int .i64 y.part, .int .i64 y.parts, .int .i64 y.first, .int .i64 y.off, .int .i64 y.most, .int .i64 y.time, .int .i64 y.bat.time, .int .i64 y.bat.prod, .int .i64 y.bat.seq, .slice A1 n1 c1]] w' fun er w'' => ∃ A' M c', er = .returned (.slice A' M c') ∧ RdB w'' A' M c' (putA y) ∧ Below w'.heap.size w' w'') := fun w' R h => refPutA_any y A1 n1 c1 w' (RdT.ext HY2.out h.1)
  have HC4 : Hid (∀ (w' : World) (R : Prop), Below w2.heap.size w2 w' ∧ R → Calls Tryz.prog 28 #[.int .i64 y.kind] w' fun er w'' => er = .returned (.bool (writK y.kind)) ∧ w' = w'') := fun w' R h => writes_any y.kind w'
  have HC5 : Hid (∀ (w' : World) (R : Prop), Below w2.heap.size w2 w' ∧ R → Calls Tryz.prog 29 #[.int .i64 y.kind] w' fun er w'' => er = .returned (.bool (writK y.kind)) ∧ w' = w'') := fun w' R h => refWrites_any y.kind w'
  have HC6 : Hid (∀ (w' : World) (R : Prop), Below w2.heap.size w2 w' ∧ R → Calls Tryz.prog 30 #[.agg #[.int .i64 y.corr, .int .i64 y.kind, .string y.topic, .string y.group, .int .i64 y.part, .int .i64 y.parts, .int .i64 y.first, .int .i64 y.off, .int .i64 y.most, .int .i64 y.time, .int .i64 y.bat.time, .int .i64 y.bat.prod, .int .i64 y.bat.seq, .slice A1 n1 c1]] w' fun er w'' => er = .returned (.agg #[.int .i64 y.kind, .string y.topic, .string y.group, .int .i64 y.part, .int .i64 y.parts, .int .i64 y.first, .int .i64 y.off, .int .i64 y.bat.time, .int .i64 y.bat.prod, .int .i64 y.bat.seq, .slice A1 n1 c1]) ∧ Below w'.heap.size w' w'') := fun w' R h => aent_any y A1 n1 c1 w'
  have HC7 : Hid (∀ (w' : World) (R : Prop), Below w2.heap.size w2 w' ∧ R → Calls Tryz.prog 31 #[.agg #[.int .i64 y.corr, .int .i64 y.kind, .string y.topic, .string y.group, .int .i64 y.part, .int .i64 y.parts, .int .i64 y.first, .int .i64 y.off, .int .i64 y.most, .int .i64 y.time, .int .i64 y.bat.time, .int .i64 y.bat.prod, .int .i64 y.bat.seq, .slice A1 n1 c1]] w' fun er w'' => er = .returned (.agg #[.int .i64 y.kind, .string y.topic, .string y.group, .int .i64 y.part, .int .i64 y.parts, .int .i64 y.first, .int .i64 y.off, .int .i64 y.bat.time, .int .i64 y.bat.prod, .int .i64 y.bat.seq, .slice A1 n1 c1]) ∧ Below w'.heap.size w' w'') := fun w' R h => refEntOf_any y A1 n1 c1 w'
  have HC8 : Hid (∀ (w' : World) (R : Prop), Below w2.heap.size w2 w' ∧ R → Calls Tryz.prog 19 #[.agg #[.int .i64 y.kind, .string y.topic, .string y.group, .int .i64 y.part, .int .i64 y.parts, .int .i64 y.first, .int .i64 y.off, .int .i64 y.bat.time, .int .i64 y.bat.prod, .int .i64 y.bat.seq, .slice A1 n1 c1], .agg #[.int .i64 y.kind, .string y.topic, .string y.group, .int .i64 y.part, .int .i64 y.parts, .int .i64 y.first, .int .i64 y.off, .int .i64 y.bat.time, .int .i64 y.bat.prod, .int .i64 y.bat.seq, .slice A1 n1 c1]] w' fun er w'' => er = .returned (.bool true) ∧ Below w'.heap.size w' w'') := fun w' R h => refSame_any y.ent y.ent A1 A1 n1 c1 n1 c1 true (by rw [(same_iff.2 (rfl : y.ent = y.ent)).1, (same_iff.2 (rfl : y.ent = y.ent)).2]; rfl) w' (RdT.ext HY2.out h.1) (RdT.ext HY2.out h.1)
  have KC : Hid (∀ (w' w'' : World) (R : Prop), Below w2.heap.size w2 w' ∧ R → Below w'.heap.size w' w'' → Below w2.heap.size w2 w'') := fun w' w'' R h hb => h.1.trans (below_le h.1.size hb)
  have FS : Hid (∀ w', Below w2.heap.size w2 w' → (Below w2.heap.size w2 w' ∧ w'.cell? ⟨w1.heap.size, 1, none⟩ = some (.int .i64 y.kind) ∧ (ldA (.pointer (some ⟨w1.heap.size, 0, none⟩))).run Tryz.prog w' = .ok (.agg #[.int .i64 y.corr, .int .i64 y.kind, .string y.topic, .string y.group, .int .i64 y.part, .int .i64 y.parts, .int .i64 y.first, .int .i64 y.off, .int .i64 y.most, .int .i64 y.time, .int .i64 y.bat.time, .int .i64 y.bat.prod, .int .i64 y.bat.seq, .slice A1 n1 c1]) w')) := fun w' hb => ⟨hb, (HK2.out.ext hb).cell 1, ldA_bk (HK2.out.ext hb)⟩
  have r0 := below_drew1 (Below.refl w2.heap.size w2)
  clear hre
  go_upto_region 3 with fail
  go_cut [49] from 50 to 105 (fun s49 wx => s49 = .bool false ∧ Below w2.heap.size w2 wx)
  case first =>
    go_region_held3 (fun w' => Below w2.heap.size w2 w' ∧ w'.cell? ⟨w1.heap.size, 1, none⟩ = some (.int .i64 y.kind) ∧ (ldA (.pointer (some ⟨w1.heap.size, 0, none⟩))).run Tryz.prog w' = .ok (.agg #[.int .i64 y.corr, .int .i64 y.kind, .string y.topic, .string y.group, .int .i64 y.part, .int .i64 y.parts, .int .i64 y.first, .int .i64 y.off, .int .i64 y.most, .int .i64 y.time, .int .i64 y.bat.time, .int .i64 y.bat.prod, .int .i64 y.bat.seq, .slice A1 n1 c1]) w') (first | exact FS.out _ r0 | exact FS.out _ q10 | exact FS.out _ q9 | exact FS.out _ q8 | exact FS.out _ q7 | exact FS.out _ q6 | exact FS.out _ q4 | exact FS.out _ q3) (first | (go_at_call 26; go_loud (with_reducible refine (HC1.out _ _ (by assumption)).mono ?_); go_loud (rintro er w3 ⟨rfl, hb3⟩); go_loud (have q3 : Below w2.heap.size w2 w3 := KC.out _ _ _ (by assumption) hb3)) | (go_at_call 27; go_loud (with_reducible refine (HC2.out _ _ (by assumption)).mono ?_); go_loud (rintro er w4 ⟨rfl, hb4⟩); go_loud (have q4 : Below w2.heap.size w2 w4 := KC.out _ _ _ (by assumption) hb4)) | (go_at_call 28; go_loud (with_reducible refine (HC4.out _ _ (by assumption)).mono ?_); go_loud (rintro er w5 ⟨rfl, rfl⟩)) | (go_at_call 29; go_loud (with_reducible refine (HC5.out _ _ (by assumption)).mono ?_); go_loud (rintro er w5 ⟨rfl, rfl⟩)) | (go_at_call 30; go_loud (with_reducible refine (HC6.out _ _ (by assumption)).mono ?_); go_loud (rintro er w6 ⟨rfl, hb6⟩); go_loud (have q6 : Below w2.heap.size w2 w6 := KC.out _ _ _ (by assumption) hb6)) | (go_at_call 31; go_loud (with_reducible refine (HC7.out _ _ (by assumption)).mono ?_); go_loud (rintro er w7 ⟨rfl, hb7⟩); go_loud (have q7 : Below w2.heap.size w2 w7 := KC.out _ _ _ (by assumption) hb7)) | (go_at_call 19; go_loud (with_reducible refine (HC8.out _ _ (by assumption)).mono ?_); go_loud (rintro er w8 ⟨rfl, hb8⟩); go_loud (have q8 : Below w2.heap.size w2 w8 := KC.out _ _ _ (by assumption) hb8)) | (go_at_call 32; go_loud (with_reducible refine (HC3.out _ _ (by assumption)).mono ?_); go_loud (rintro er w9 ⟨A9, M9, c9, rfl, hr9, hb9⟩); go_loud (have q9 : Below w2.heap.size w2 w9 := KC.out _ _ _ (by assumption) hb9)) | (go_at_call 13; go_loud (with_reducible refine (sameB_any _ _ _ _ _ _ _ _ _ (RdB.ext HRd2.out q9) hr9).mono ?_); go_loud (rintro er w10 ⟨rfl, q, rfl⟩); go_loud (have q10 : Below w2.heap.size w2 (w9.drewN q) := below_drawn q9 q)) | fail)
    all_goals
      go_wp2_with fail
      go_meet
      exact ⟨rfl, q10⟩
  case rest =>
    obtain ⟨rfl, hbx⟩ := hcut
    have HBc := Lib.hid (HB2.out.trans (below_le HB2.out.size hbx))
    have HRdc := Lib.hid (RdB.ext HRd2.out hbx)
    have HRbc := Lib.hid (RdB.ext HRb.out HBc.out)
    clear hbx HC1 HC2 HC3 HC4 HC5 HC6 HC7 HC8 KC FS r0 HRd2 HB2 HK2 HY2 HRb
    have hlen2 := hM2.out
    have hlim2 := hM3.out
    obtain ⟨m, hm1, hm2, hm3⟩ := int_min nb 100 (by omega)
    have hm4 : (m : Int) ≤ (nb : Int) := by omega
    have hm5 : (0 : Int) ≤ (m : Int) := by omega
    have hmn : (m : Int).toNat = m := by omega
    by_cases hzero : M2 = 0
    · subst hzero
      have HM6 := Lib.hid (show m ≤ 1000 by omega)
      clear hlen2 hlim2
      go_wp2_with (first | (at_builtin; refine wpList_append_bytes rfl (.tmp 50) (.tmp 55) rfl wc.heap.size wc _ [] rfl (OwnB.empty' wc wc.heap.size _ rfl (Nat.le_refl _)) Ab m cb (lb.take m) rfl (RdB.ext (RdB.upto HRbc.out m hm2) (below_new wc _)) (by simp; omega) (below_new wc _) (below_new wc _).size m (by simp) ?_; intro A4 c4 w4 ho4 hb4 hs4; have HB4 := Lib.hid (HBc.out.trans (below_le HBc.out.size hb4)); have HR4 := Lib.hid (show RdB w4 A4 m c4 (lb.take m) from ho4.out.rd); clear ho4 hb4 hs4) | fail)
      have HRm := Lib.hid (roomy_any (A4) m c4 (lb.take m) 7 w4 HR4.out (by have := HM6.out; omega))
      have H7 : Hid (w8 7 = (7 : Int)) := rfl
      rw [H7.out] at HRm
      with_reducible refine HRm.out.mono ?_
      rintro er w5 ⟨rfl, hbb5, hb5⟩
      have HF5 := Lib.hid (hbb5.whole (m + 80) (m + 80) (by rw [List.length_append, HR4.out.len]; simp [rep]) (Nat.le_refl _) (by have := HM6.out; omega))
      have hf5 := (hbb5.whole (m + 80) (m + 80) (by rw [List.length_append, HR4.out.len]; simp [rep]) (Nat.le_refl _) (by have := HM6.out; omega)).upto m (by omega)
      have htk : ((lb.take m) ++ rep 80 7).take m = (lb.take m) := by rw [List.take_append_of_le_length (by rw [HR4.out.len]; exact Nat.le_refl _), List.take_of_length_le (by rw [HR4.out.len]; exact Nat.le_refl _)]
      rw [htk] at hf5
      have HG := Lib.hid (aget_any _ _ _ _ w5 hf5 (by have := HM6.out; omega))
      have HR5 := Lib.hid (RdB.ext HR4.out hb5)
      have HB5 := Lib.hid (HB4.out.trans (below_le HB4.out.size hb5))
      have hw81 : (m : Int) ≤ ((m + 80 : Nat) : Int) := by omega
      have hw82 : (0 : Int) ≤ (m : Int) := by omega
      clear hbb5 hb5 hf5 htk HRm HR4 HB4
      go_wp2_with fail
      with_reducible refine HG.out.mono ?_
      rintro er w6 ⟨x, A5, n5, c5, v5, rfl, ⟨hr6, hv6⟩, hb6, _⟩
      have hst6 := stA_newAt w6 w6.heap.size rfl x.corr x.kind x.topic x.group x.part x.parts x.first x.off x.most x.time x.bat.time x.bat.prod x.bat.seq A5 n5 c5 #[.int .i64 0, .int .i64 0, .string ⟨#[]⟩, .string ⟨#[]⟩, .int .i64 0, .int .i64 0, .int .i64 0, .int .i64 0, .int .i64 0, .int .i64 0, .int .i64 0, .int .i64 0, .int .i64 0, .slice none 0 0] rfl
      have hbn6 := below_new w6 (.cells #[.int .i64 x.corr, .int .i64 x.kind, .string x.topic, .string x.group, .int .i64 x.part, .int .i64 x.parts, .int .i64 x.first, .int .i64 x.off, .int .i64 x.most, .int .i64 x.time, .int .i64 x.bat.time, .int .i64 x.bat.prod, .int .i64 x.bat.seq, .slice A5 n5 c5] 47)
      have HK6 := Lib.hid (Bk.made w6 47 #[.int .i64 x.corr, .int .i64 x.kind, .string x.topic, .string x.group, .int .i64 x.part, .int .i64 x.parts, .int .i64 x.first, .int .i64 x.off, .int .i64 x.most, .int .i64 x.time, .int .i64 x.bat.time, .int .i64 x.bat.prod, .int .i64 x.bat.seq, .slice A5 n5 c5])
      have HX6 := Lib.hid (RdT.ext hr6 hbn6)
      have HR6 := Lib.hid ((RdB.ext HR5.out hb6).ext hbn6)
      have HF6 := Lib.hid ((RdB.ext HF5.out hb6).ext hbn6)
      have HB6 := Lib.hid ((HB5.out.trans (below_le HB5.out.size hb6)).trans (below_le (Nat.le_trans HB5.out.size hb6.size) hbn6))
      have Hv6 := Lib.hid hv6
      have HH := Lib.hid (refGetA_any _ _ _ _ _ HR6.out (by have := HM6.out; omega))
      clear hr6 hv6 hb6 hbn6 HG HR5 HF5 HB5
      go_wp2_with fail
      with_reducible refine HH.out.mono ?_
      rintro er w7 ⟨h', A6, n6, c6, k7, rfl, ⟨hr7, hv7⟩, hb7⟩
      have hst7 := stA_newAt w7 w7.heap.size rfl h'.corr h'.kind h'.topic h'.group h'.part h'.parts h'.first h'.off h'.most h'.time h'.bat.time h'.bat.prod h'.bat.seq A6 n6 c6 #[.int .i64 0, .int .i64 0, .string ⟨#[]⟩, .string ⟨#[]⟩, .int .i64 0, .int .i64 0, .int .i64 0, .int .i64 0, .int .i64 0, .int .i64 0, .int .i64 0, .int .i64 0, .int .i64 0, .slice none 0 0] rfl
      have hbn7 := below_new w7 (.cells #[.int .i64 h'.corr, .int .i64 h'.kind, .string h'.topic, .string h'.group, .int .i64 h'.part, .int .i64 h'.parts, .int .i64 h'.first, .int .i64 h'.off, .int .i64 h'.most, .int .i64 h'.time, .int .i64 h'.bat.time, .int .i64 h'.bat.prod, .int .i64 h'.bat.seq, .slice A6 n6 c6] 47)
      have lx := ldA_bk ((HK6.out.ext hb7).ext hbn7)
      have lh := ldA_bk (Bk.made w7 47 #[.int .i64 h'.corr, .int .i64 h'.kind, .string h'.topic, .string h'.group, .int .i64 h'.part, .int .i64 h'.parts, .int .i64 h'.first, .int .i64 h'.off, .int .i64 h'.most, .int .i64 h'.time, .int .i64 h'.bat.time, .int .i64 h'.bat.prod, .int .i64 h'.bat.seq, .slice A6 n6 c6])
      have HX7 := Lib.hid ((HX6.out.ext hb7).ext hbn7)
      have HH7 := Lib.hid (RdT.ext hr7 hbn7)
      have HR7 := Lib.hid ((RdB.ext HR6.out hb7).ext hbn7)
      have HF7 := Lib.hid ((RdB.ext HF6.out hb7).ext hbn7)
      have HB7 := Lib.hid ((HB6.out.trans (below_le HB6.out.size hb7)).trans (below_le (Nat.le_trans HB6.out.size hb7.size) hbn7))
      have hgk := get_bothA Hv6.out hv7
      obtain ⟨kk, rfl, rfl, HKd⟩ := hgk
      have HS := Lib.hid (refSameAsk_any h' h' A5 A6 n5 c5 n6 c6 true (by rw [(same_iff.2 (rfl : h'.ent = h'.ent)).1, (show sameB h'.bat h'.bat = true from (same_iff.2 (rfl : h'.ent = h'.ent)).2)]; simp) _ HX7.out HH7.out)
      clear hb7 hbn7 hr7 hv7 Hv6 HK6 HX6 HR6 HF6 HB6 HX7 HH7 hst6 HH
      go_wp2_with fail
      with_reducible refine HS.out.mono ?_
      rintro er w8 ⟨rfl, hb8⟩
      have HR8 := Lib.hid (RdB.ext HR7.out hb8)
      have HF8 := Lib.hid (RdB.ext HF7.out hb8)
      have HB8 := Lib.hid (HB7.out.trans (below_le HB7.out.size hb8))
      have HKw := Lib.hid (HKd.out w8 (ErrLaid.below Hg.out HB8.out))
      clear hb8 HS HKd lx lh hst7 HR7 HF7 HB7
      go_wp2_with fail
      with_reducible refine HKw.out.mono ?_
      rintro er w9 ⟨rfl, hb9⟩
      have HI := Lib.hid (intact_any _ _ _ _ _ _ _ _ 7 w9 (RdB.ext HF8.out hb9) (RdB.ext HR8.out hb9) (by have := HM6.out; omega))
      rw [decide_eq_true rfl, H7.out] at HI
      have HB9 := Lib.hid (HB8.out.trans (below_le HB8.out.size hb9))
      clear hb9 HKw HR8 HF8 HB8
      go_wp2_with fail
      with_reducible refine HI.out.mono ?_
      rintro er w10' ⟨rfl, q10, rfl⟩
      have HB10 := Lib.hid (below_drawn HB9.out q10)
      go_wp2_with fail
      refine (askRuns_any _ (ErrLaid.below Hg.out HB10.out)).mono ?_
      rintro er w11 ⟨rfl, hb11⟩
      go_wp2_with fail
      go_ret
      exact ⟨rfl, HB10.out.trans (below_le HB10.out.size hb11)⟩
    · have hpos : 0 < M2 := by omega
      have hne : ((M2 : Int) == 0) = false := by simp; omega
      have hwr : Hid (wrap64 ((M2 : Int) - 1) = (M2 : Int) - 1) := IntWalk.wrap64_in _ ⟨by omega, by omega⟩
      have HM6 := Lib.hid (show M2 ≤ 1000 by omega)
      have hpos' : decide ((0 : Int) < (M2 : Int)) = true := decide_eq_true (by omega)
      clear hlen2
      have HZ := Lib.hid hz
      clear hz
      go_wp2_with (first | (at_builtin; refine wpList_append_bytes rfl (.tmp 50) (.tmp 55) rfl wc.heap.size wc _ [] rfl (OwnB.empty' wc wc.heap.size _ rfl (Nat.le_refl _)) Ab m cb (lb.take m) rfl (RdB.ext (RdB.upto HRbc.out m hm2) (below_new wc _)) (by simp; omega) (below_new wc _) (below_new wc _).size m (by simp) ?_; intro A4 c4 w4 ho4 hb4 hs4; have HBx := Lib.hid hb4; clear ho4 hb4 hs4) | (at_builtin; go_loud (refine wpList_append_more rfl (.tmp 60) (.tmp 61) rfl wc.heap.size wc _ [] rfl (OwnB.empty' w4 wc.heap.size _ rfl HBx.out.size) A2 M2 c2 (putA y) rfl (RdB.ext (RdB.ext HRdc.out HBx.out) (below_new w4 _)) (by have := hM2.out; simp; omega) (HBx.out.trans (below_le HBx.out.size (below_new w4 _))) (Nat.le_trans HBx.out.size (below_new w4 _).size) M2 (by simp) hpos ?_; intro g cap w3 hg hcap1 hcap2 ho3 hb3 hs3; have HO3 := Lib.hid (show OwnAt w3 g cap (putA y) from ho3.out); have HB3 := Lib.hid (HBc.out.trans (below_le HBc.out.size hb3)); have Hg3 := Lib.hid hg; clear ho3 hb3 hs3)) | fail)
      have hz := HZ.out
      obtain ⟨k, hk⟩ : ∃ k : Nat, within z 0 ((M2 : Int) - 1) = k := ⟨(within z 0 ((M2 : Int) - 1)).toNat, by have := within_in z 0 ((M2 : Int) - 1) (by omega); omega⟩
      have hkM : k < M2 := by have := within_in z 0 ((M2 : Int) - 1) (by omega); omega
      have hk1 : (k : Int) < (M2 : Int) := by omega
      have hk0 : (0 : Int) ≤ (k : Int) := by omega
      obtain ⟨u, _, hcell⟩ := HO3.out.get (i := k) (Nat.lt_of_lt_of_eq hkM hM2.out.symm)
      have hth := HO3.out.thaw k
      have hW := within_any z 0 ((M2 : Int) - 1) w3 (by omega) (by omega) (by have := hM2.out; have := hM3.out; omega) hz.1 hz.2
      rw [hk] at hW
      have HO4 := Lib.hid (HO3.out.put k (u ^^^ b0))
      have HB4a := Lib.hid (below_grown HB3.out HB3.out.size (grown_set w3 ⟨g, k, none⟩ (.int .u8 (w8 (u ^^^ b0)))) (Nat.le_trans HBc.out.size Hg3.out))
      have hlen4 : ((putA y).set k (u ^^^ b0)).length = M2 := by rw [List.length_set]; exact hM2.out
      obtain ⟨L4, hL4⟩ : ∃ L4, (putA y).set k (u ^^^ b0) = L4 := ⟨_, rfl⟩
      rw [hL4] at HO4 hlen4
      have HR4a := Lib.hid (HO4.out.whole M2 cap hlen4.symm hcap1 hcap2)
      clear hL4 hlen4 HO4
      with_reducible refine hW.mono ?_
      rintro er w4' ⟨rfl, rfl⟩
      go_wp2_with fail
      refine calls_cut (fun w' => Below w.heap.size w w' ∧ RdB w' (some ⟨g, 0, none⟩) M2 cap L4) ⟨HB4a.out, HR4a.out⟩ ?_
      rintro w4' ⟨hb4', hr4'⟩
      have HB4 := Lib.hid hb4'
      have HR4 := Lib.hid hr4'
      clear HB4a HR4a hcell hth hb4' hr4' HBx hW
      have HRm := Lib.hid (roomy_any (some ⟨g, 0, none⟩) M2 cap L4 7 w4' HR4.out (by have := HM6.out; omega))
      have H7 : Hid (w8 7 = (7 : Int)) := rfl
      rw [H7.out] at HRm
      with_reducible refine HRm.out.mono ?_
      rintro er w5 ⟨rfl, hbb5, hb5⟩
      have HF5 := Lib.hid (hbb5.whole (M2 + 80) (M2 + 80) (by rw [List.length_append, HR4.out.len]; simp [rep]) (Nat.le_refl _) (by have := HM6.out; omega))
      have hf5 := (hbb5.whole (M2 + 80) (M2 + 80) (by rw [List.length_append, HR4.out.len]; simp [rep]) (Nat.le_refl _) (by have := HM6.out; omega)).upto M2 (by omega)
      have htk : (L4 ++ rep 80 7).take M2 = L4 := by rw [List.take_append_of_le_length (by rw [HR4.out.len]; exact Nat.le_refl _), List.take_of_length_le (by rw [HR4.out.len]; exact Nat.le_refl _)]
      rw [htk] at hf5
      have HG := Lib.hid (aget_any _ _ _ _ w5 hf5 (by have := HM6.out; omega))
      have HR5 := Lib.hid (RdB.ext HR4.out hb5)
      have HB5 := Lib.hid (HB4.out.trans (below_le HB4.out.size hb5))
      have hw81 : (M2 : Int) ≤ ((M2 + 80 : Nat) : Int) := by omega
      have hw82 : (0 : Int) ≤ (M2 : Int) := by omega
      clear hbb5 hb5 hf5 htk HRm HR4 HB4
      go_wp2_with fail
      with_reducible refine HG.out.mono ?_
      rintro er w6 ⟨x, A5, n5, c5, v5, rfl, ⟨hr6, hv6⟩, hb6, _⟩
      have hst6 := stA_newAt w6 w6.heap.size rfl x.corr x.kind x.topic x.group x.part x.parts x.first x.off x.most x.time x.bat.time x.bat.prod x.bat.seq A5 n5 c5 #[.int .i64 0, .int .i64 0, .string ⟨#[]⟩, .string ⟨#[]⟩, .int .i64 0, .int .i64 0, .int .i64 0, .int .i64 0, .int .i64 0, .int .i64 0, .int .i64 0, .int .i64 0, .int .i64 0, .slice none 0 0] rfl
      have hbn6 := below_new w6 (.cells #[.int .i64 x.corr, .int .i64 x.kind, .string x.topic, .string x.group, .int .i64 x.part, .int .i64 x.parts, .int .i64 x.first, .int .i64 x.off, .int .i64 x.most, .int .i64 x.time, .int .i64 x.bat.time, .int .i64 x.bat.prod, .int .i64 x.bat.seq, .slice A5 n5 c5] 47)
      have HK6 := Lib.hid (Bk.made w6 47 #[.int .i64 x.corr, .int .i64 x.kind, .string x.topic, .string x.group, .int .i64 x.part, .int .i64 x.parts, .int .i64 x.first, .int .i64 x.off, .int .i64 x.most, .int .i64 x.time, .int .i64 x.bat.time, .int .i64 x.bat.prod, .int .i64 x.bat.seq, .slice A5 n5 c5])
      have HX6 := Lib.hid (RdT.ext hr6 hbn6)
      have HR6 := Lib.hid ((RdB.ext HR5.out hb6).ext hbn6)
      have HF6 := Lib.hid ((RdB.ext HF5.out hb6).ext hbn6)
      have HB6 := Lib.hid ((HB5.out.trans (below_le HB5.out.size hb6)).trans (below_le (Nat.le_trans HB5.out.size hb6.size) hbn6))
      have Hv6 := Lib.hid hv6
      have HH := Lib.hid (refGetA_any _ _ _ _ _ HR6.out (by have := HM6.out; omega))
      clear hr6 hv6 hb6 hbn6 HG HR5 HF5 HB5
      go_wp2_with fail
      with_reducible refine HH.out.mono ?_
      rintro er w7 ⟨h', A6, n6, c6, k7, rfl, ⟨hr7, hv7⟩, hb7⟩
      have hst7 := stA_newAt w7 w7.heap.size rfl h'.corr h'.kind h'.topic h'.group h'.part h'.parts h'.first h'.off h'.most h'.time h'.bat.time h'.bat.prod h'.bat.seq A6 n6 c6 #[.int .i64 0, .int .i64 0, .string ⟨#[]⟩, .string ⟨#[]⟩, .int .i64 0, .int .i64 0, .int .i64 0, .int .i64 0, .int .i64 0, .int .i64 0, .int .i64 0, .int .i64 0, .int .i64 0, .slice none 0 0] rfl
      have hbn7 := below_new w7 (.cells #[.int .i64 h'.corr, .int .i64 h'.kind, .string h'.topic, .string h'.group, .int .i64 h'.part, .int .i64 h'.parts, .int .i64 h'.first, .int .i64 h'.off, .int .i64 h'.most, .int .i64 h'.time, .int .i64 h'.bat.time, .int .i64 h'.bat.prod, .int .i64 h'.bat.seq, .slice A6 n6 c6] 47)
      have lx := ldA_bk ((HK6.out.ext hb7).ext hbn7)
      have lh := ldA_bk (Bk.made w7 47 #[.int .i64 h'.corr, .int .i64 h'.kind, .string h'.topic, .string h'.group, .int .i64 h'.part, .int .i64 h'.parts, .int .i64 h'.first, .int .i64 h'.off, .int .i64 h'.most, .int .i64 h'.time, .int .i64 h'.bat.time, .int .i64 h'.bat.prod, .int .i64 h'.bat.seq, .slice A6 n6 c6])
      have HX7 := Lib.hid ((HX6.out.ext hb7).ext hbn7)
      have HH7 := Lib.hid (RdT.ext hr7 hbn7)
      have HR7 := Lib.hid ((RdB.ext HR6.out hb7).ext hbn7)
      have HF7 := Lib.hid ((RdB.ext HF6.out hb7).ext hbn7)
      have HB7 := Lib.hid ((HB6.out.trans (below_le HB6.out.size hb7)).trans (below_le (Nat.le_trans HB6.out.size hb7.size) hbn7))
      have hgk := get_bothA Hv6.out hv7
      obtain ⟨kk, rfl, rfl, HKd⟩ := hgk
      have HS := Lib.hid (refSameAsk_any h' h' A5 A6 n5 c5 n6 c6 true (by rw [(same_iff.2 (rfl : h'.ent = h'.ent)).1, (show sameB h'.bat h'.bat = true from (same_iff.2 (rfl : h'.ent = h'.ent)).2)]; simp) _ HX7.out HH7.out)
      clear hb7 hbn7 hr7 hv7 Hv6 HK6 HX6 HR6 HF6 HB6 HX7 HH7 hst6 HH
      go_wp2_with fail
      with_reducible refine HS.out.mono ?_
      rintro er w8 ⟨rfl, hb8⟩
      have HR8 := Lib.hid (RdB.ext HR7.out hb8)
      have HF8 := Lib.hid (RdB.ext HF7.out hb8)
      have HB8 := Lib.hid (HB7.out.trans (below_le HB7.out.size hb8))
      have HKw := Lib.hid (HKd.out w8 (ErrLaid.below Hg.out HB8.out))
      clear hb8 HS HKd lx lh hst7 HR7 HF7 HB7
      go_wp2_with fail
      with_reducible refine HKw.out.mono ?_
      rintro er w9 ⟨rfl, hb9⟩
      have HI := Lib.hid (intact_any _ _ _ _ _ _ _ _ 7 w9 (RdB.ext HF8.out hb9) (RdB.ext HR8.out hb9) (by have := HM6.out; omega))
      rw [decide_eq_true rfl, H7.out] at HI
      have HB9 := Lib.hid (HB8.out.trans (below_le HB8.out.size hb9))
      clear hb9 HKw HR8 HF8 HB8
      go_wp2_with fail
      with_reducible refine HI.out.mono ?_
      rintro er w10' ⟨rfl, q10, rfl⟩
      have HB10 := Lib.hid (below_drawn HB9.out q10)
      go_wp2_with fail
      refine (askRuns_any _ (ErrLaid.below Hg.out HB10.out)).mono ?_
      rintro er w11 ⟨rfl, hb11⟩
      go_wp2_with fail
      go_ret
      exact ⟨rfl, HB10.out.trans (below_le HB10.out.size hb11)⟩
end Go.Proofs.YtpfdbbcfcimmfaaGreatDoor
