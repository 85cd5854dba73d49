/-
  staveref19: RightEntry, PutEntry.
-/
import Derived.Test.YtpfdbbcfcimmfaaGreatDoorRSame
import Derived.Test.YtpfdbbcfcimmfaaGreatDoorRefB
import Derived.Test.YtpfdbbcfcimmfaaGreatDoorEPutW
import Derived.Deep.CutRange
import Derived.Deep.RegionHeld3
namespace Go.Proofs.YtpfdbbcfcimmfaaGreatDoor
open Go.RowKit
attribute [local go_sem ↓] ldB_eq stB_eq ldE_eq stE_eq
attribute [local go_sem] isE_drew isE_alloc stE_if

theorem isE.setBk {w : World} {G : Nat} (h : isE w G) (c : Array Value) : Bk (w.setRow G c) G 26 c := by
  obtain ⟨old, h1, _⟩ := h
  exact h1.row c

theorem right_bat {e : Ent} (h : rightE e = true) (hk : e.kind = 3) : rightB e.bat = true := by
  obtain ⟨_, _, h3, _, h5⟩ := right_facts h
  have hv : valsE e = [sV e.topic, nV e.part, sV (batS e.bat)] := by unfold valsE; rw [hk]; rfl
  rw [hk, hv] at h3 h5
  cases hg : getB (batS e.bat).data.toList with
  | error c =>
    have h3' : (match getB (batS e.bat).data.toList with | .ok _ => none | .error c => some c) = none := h3
    rw [hg] at h3'
    cases h3'
  | ok b =>
    have h5' : (⟨3, e.topic, nul, e.part, 0, 0, 0, batOf (getB (batS e.bat).data.toList)⟩ : Ent) = e := h5
    rw [hg] at h5'
    have : e.bat = b := by rw [← h5']; rfl
    rw [this]
    exact (getB_inv hg).1
theorem bytes_pos {e : Ent} (hk : 1 ≤ e.kind ∧ e.kind ≤ 5) : 0 < (bytesAll (fldsE e.kind) (valsE e)).length := by
  rcases kind_cases hk with k | k | k | k | k
  · have e1 : valsE e = [sV e.topic, nV e.parts, nV e.first] := by unfold valsE; rw [k]; rfl
    rw [k, e1]
    show 0 < (txtB e.topic ++ _).length
    rw [List.length_append, txtB_len]; omega
  · have e1 : valsE e = [sV e.topic] := by unfold valsE; rw [k]; rfl
    rw [k, e1]
    show 0 < (txtB e.topic ++ _).length
    rw [List.length_append, txtB_len]; omega
  · have e1 : valsE e = [sV e.topic, nV e.part, sV (batS e.bat)] := by unfold valsE; rw [k]; rfl
    rw [k, e1]
    show 0 < (txtB e.topic ++ _).length
    rw [List.length_append, txtB_len]; omega
  · have e1 : valsE e = [sV e.group, sV e.topic, nV e.part, nV e.off] := by unfold valsE; rw [k]; rfl
    rw [k, e1]
    show 0 < (txtB e.group ++ _).length
    rw [List.length_append, txtB_len]; omega
  · have e1 : valsE e = [sV e.topic, nV e.part, nV e.off] := by unfold valsE; rw [k]; rfl
    rw [k, e1]
    show 0 < (txtB e.topic ++ _).length
    rw [List.length_append, txtB_len]; omega
set_option maxRecDepth 100000 in
set_option maxHeartbeats 4000000 in
theorem refRight_any (e : Ent) (A : Option Addr) (n c : Nat) (w : World) (hr : RdT w A n c e.bat.vals) (r : Bool) (hre : rightE e = r) :
    Calls Tryz.prog 12 #[.agg #[.int .i64 e.kind, .string e.topic, .string e.group, .int .i64 e.part, .int .i64 e.parts, .int .i64 e.first, .int .i64 e.off, .int .i64 e.bat.time, .int .i64 e.bat.prod, .int .i64 e.bat.seq, .slice A n c]] w fun er w' => er = .returned (.bool r) ∧ Below w.heap.size w w' := by
  have hbn := below_new w (.cells #[.int .i64 e.kind, .string e.topic, .string e.group, .int .i64 e.part, .int .i64 e.parts, .int .i64 e.first, .int .i64 e.off, .int .i64 e.bat.time, .int .i64 e.bat.prod, .int .i64 e.bat.seq, .slice A n c] 26)
  have hbk := Bk.made w 26 #[.int .i64 e.kind, .string e.topic, .string e.group, .int .i64 e.part, .int .i64 e.parts, .int .i64 e.first, .int .i64 e.off, .int .i64 e.bat.time, .int .i64 e.bat.prod, .int .i64 e.bat.seq, .slice A n c]
  have HBK := Lib.hid hbk
  have HR := Lib.hid hr
  have Hre := Lib.hid hre
  have HB0 := Lib.hid hbn
  clear hbn hbk hr hre
  go_enter Tryz.func12, Tryz.ntmps12
  go_wp2_with fail
  refine calls_cut (fun w' => Bk w' w.heap.size 26 #[.int .i64 e.kind, .string e.topic, .string e.group, .int .i64 e.part, .int .i64 e.parts, .int .i64 e.first, .int .i64 e.off, .int .i64 e.bat.time, .int .i64 e.bat.prod, .int .i64 e.bat.seq, .slice A n c] ∧ Below w.heap.size w w') ⟨HBK.out, HB0.out⟩ ?_
  clear HBK HB0
  rintro w1 ⟨hk1, hb1⟩
  refine (refFlds_any e.kind w1).mono ?_
  rintro er w2 ⟨v2, rfl, hf2, hb2⟩
  obtain ⟨A3, n3, c3, rfl, hrf, hn3, hA3⟩ := hf2
  have HK2 := Lib.hid (hk1.ext hb2)
  have HB2 := Lib.hid (hb1.trans (below_le hb1.size hb2))
  have HRf := Lib.hid hrf
  have Hn3 := Lib.hid hn3
  have hq := fun (w : World) => eq_nil_slice w A3 n3 c3 0 0
  clear hk1 hb1 hb2 hrf hn3
  by_cases hkd : 1 ≤ e.kind ∧ e.kind ≤ 5
  case' neg =>
    have hnn : A3.isNone = true := by
      rw [decide_eq_false hkd] at hA3
      cases A3 with
      | none => rfl
      | some a => cases hA3
    rw [hnn] at hq
    have HF : Hid (r = false) := by
      show r = false
      rw [← Hre.out]
      exact Bool.eq_false_iff.2 (fun h => hkd (right_kind h))
    clear hkd hA3 hnn
    go_wp2_with fail
    go_ret
    exact ⟨ret_bool HF.out.symm, HB2.out⟩
  case' pos =>
    have hnn : A3.isNone = false := by
      rw [decide_eq_true hkd] at hA3
      cases A3 with
      | none => cases hA3
      | some a => rfl
    rw [hnn] at hq
    have Hkd := Lib.hid hkd
    clear hkd hA3 hnn
    go_upto_region 4 with fail
    clear hq
    go_cut [22] from 23 to 66 (fun s22 wx => s22 = .bool (decide (e.kind = 3) && !rightB e.bat) ∧ Below w2.heap.size w2 wx)
    case first =>
      have c0 : w2.cell? ⟨w.heap.size, 0, none⟩ = some (.int .i64 e.kind) := HK2.out.cell 0
      by_cases h3 : e.kind = 3
      · have q3 : (e.kind == 3) = true := by simp [h3]
        have HRb := Lib.hid (refRB_any e.bat A n c w2 (RdT.ext HR.out HB2.out))
        have hldb := ldB_of_ent HK2.out
        have H3 : Hid (decide (e.kind = 3) = true) := decide_eq_true h3
        clear h3
        cases hrb : rightB e.bat
        all_goals
          rw [hrb] at HRb
          go_wp2_with fail
          with_reducible refine HRb.out.mono ?_
          rintro er w4 ⟨rfl, hb4⟩
          have HB4 := Lib.hid hb4
          clear hb4
          go_wp2_with fail
          go_meet
          case rel => exact ⟨by rw [H3.out, hrb]; rfl, HB4.out⟩
      · have q3 : (e.kind == 3) = false := by simp [h3]
        have H3 : Hid (decide (e.kind = 3) = false) := decide_eq_false h3
        clear h3
        go_wp2_with fail
        go_meet
        case rel => exact ⟨by rw [H3.out]; rfl, Below.refl _ _⟩
    case rest =>
      obtain ⟨rfl, hbx⟩ := hcut
      have HKc := Lib.hid (HK2.out.ext hbx)
      have HBc := Lib.hid (HB2.out.trans (below_le HB2.out.size hbx))
      have HRc := Lib.hid (HRf.out.ext hbx)
      clear hbx HK2 HB2 HRf
      cases hcd : (decide (e.kind = 3) && !rightB e.bat)
      case' true =>
        have HF : Hid (r = false) := by
          show r = false
          rw [← Hre.out]
          refine Bool.eq_false_iff.2 (fun h => ?_)
          rw [Bool.and_eq_true, decide_eq_true_iff] at hcd
          have h2 := right_bat h hcd.1
          rw [h2] at hcd
          cases hcd.2
        clear hcd
        go_wp2_with fail
        go_ret
        exact ⟨ret_bool HF.out.symm, HBc.out⟩
      case' false =>
        clear hcd
        have hld := ldE_bk HKc.out
        have HV := Lib.hid (refVals_any e.kind e.topic e.group e.part e.parts e.first e.off e.bat.time e.bat.prod e.bat.seq e.bat.vals A n c wc (RdT.ext HR.out HBc.out))
        go_wp2_with fail
        with_reducible refine HV.out.mono ?_
        rintro er w4 ⟨v4, rfl, hv4, hb4⟩
        obtain ⟨A4, n4, c4, ms, rfl, hrv, hvs⟩ := hv4
        have hvs : vsOf ms = valsE e := hvs
        have HP := Lib.hid (refPut_any A3 n3 c3 (fldsE e.kind) A4 n4 c4 ms w4 (flds_some _) (HRc.out.ext hb4) hrv Hn3.out)
        have HK4 := Lib.hid (HKc.out.ext hb4)
        have HB4 := Lib.hid (HBc.out.trans (below_le HBc.out.size hb4))
        have Hvs := Lib.hid hvs
        clear hld HV hb4 hrv hvs HKc HBc HRc
        go_wp2_with fail
        with_reducible refine HP.out.mono ?_
        rintro er w5 ⟨Ap, M5, cp, k5, i5, rfl, hp5, hb5⟩
        rw [Hvs.out] at hp5
        have HK5 := Lib.hid (HK4.out.ext hb5)
        have HB5 := Lib.hid (HB4.out.trans (below_le HB4.out.size hb5))
        clear hb5 HP HK4 HB4
        rcases hp5 with ⟨hok, rfl, ho5⟩ | ⟨hno, _, hk5⟩
        · have hM : Hid (M5 = (bytesAll (fldsE e.kind) (valsE e)).length) := ho5.rd.len.symm
          have hM0 : ((M5 : Int) == 0) = false := by have := bytes_pos Hkd.out; have := hM.out; simp; omega
          have Hok := Lib.hid hok
          clear hok ho5
          go_upto_region 9 with fail
          go_cut [7, 8] from 38 to 66 (fun s7 s8 wx => ∃ (x : Ent) (A5 : Option Addr) (n5 c5 : Nat) (ok : Bool) (g7 : Nat), s7 = .pointer (some ⟨g7, 0, none⟩) ∧ s8 = .bool ok ∧ Bk wx g7 26 #[.int .i64 x.kind, .string x.topic, .string x.group, .int .i64 x.part, .int .i64 x.parts, .int .i64 x.first, .int .i64 x.off, .int .i64 x.bat.time, .int .i64 x.bat.prod, .int .i64 x.bat.seq, .slice A5 n5 c5] ∧ RdT wx A5 n5 c5 x.bat.vals ∧ ((ok = true ∧ badE e.kind (valsE e) = none ∧ x = madeE e.kind (valsE e)) ∨ (ok = false ∧ ∃ k, badE e.kind (valsE e) = some k)) ∧ Below w5.heap.size w5 wx)
          case first =>
            have FS : Hid (∀ w', Below w5.heap.size w5 w' → (Below w5.heap.size w5 w' ∧ w'.cell? ⟨w.heap.size, 0, none⟩ = some (.int .i64 e.kind) ∧ (ldE (.pointer (some ⟨w.heap.size, 0, none⟩))).run Tryz.prog w' = .ok (.agg #[.int .i64 e.kind, .string e.topic, .string e.group, .int .i64 e.part, .int .i64 e.parts, .int .i64 e.first, .int .i64 e.off, .int .i64 e.bat.time, .int .i64 e.bat.prod, .int .i64 e.bat.seq, .slice A n c]) w')) := fun w' hb => ⟨hb, (HK5.out.ext hb).cell 0, ldE_bk (HK5.out.ext hb)⟩
            have r0 := below_drew1 (Below.refl w5.heap.size w5)
            have HVv : Hid (∀ (w' : World) (R : Prop), Below w5.heap.size w5 w' ∧ R → Calls Tryz.prog 46 #[.agg #[.int .i64 e.kind, .string e.topic, .string e.group, .int .i64 e.part, .int .i64 e.parts, .int .i64 e.first, .int .i64 e.off, .int .i64 e.bat.time, .int .i64 e.bat.prod, .int .i64 e.bat.seq, .slice A n c]] w' fun er w'' => ∃ v, er = .returned v ∧ ValR e w'' v ∧ Below w'.heap.size w' w'') := fun w' R h => refVals_any e.kind e.topic e.group e.part e.parts e.first e.off e.bat.time e.bat.prod e.bat.seq e.bat.vals A n c w' (RdT.ext HR.out (HB5.out.trans (below_le HB5.out.size h.1)))
            have KC : Hid (∀ (w' w'' : World) (R : Prop), Below w5.heap.size w5 w' ∧ R → Below w'.heap.size w' w'' → Below w5.heap.size w5 w'') := fun w' w'' R h hb => h.1.trans (below_le h.1.size hb)
            have KA : Hid (∀ (w' : World) (o : Obj) (R : Prop), Below w5.heap.size w5 w' ∧ R → Below w5.heap.size w5 (w'.alloc o)) := fun w' o R h => h.1.alloc h.1.size o
            have KD : Hid (∀ (w' : World) (o : Obj) (R : Prop), Below w5.heap.size w5 w'.drew ∧ R → Below w5.heap.size w5 (w'.alloc o).drew) := fun w' o R h => h.1.alloc h.1.size o
            have KR : Hid (∀ (w' : World) (g : Nat) (r : Array Value) (R : Prop), Below w5.heap.size w5 w' ∧ R → w5.heap.size ≤ g → Below w5.heap.size w5 (w'.setRow g r)) := fun w' g r R h hg => below_row h.1 h.1.size hg r
            have HMm : Hid (∀ (A4 : Option Addr) (n4 c4 : Nat) (ms4 : List MVal) (w4 w' : World), RdV w4 A4 n4 c4 ms4 → vsOf ms4 = valsE e → Below w4.heap.size w4 w' → Calls Tryz.prog 47 #[.int .i64 e.kind, .slice A4 n4 c4] w' fun er w'' => ∃ (x : Ent) (A5 : Option Addr) (n5 c5 : Nat) (ok : Bool), er = .returned (.tuple #[.agg #[.int .i64 x.kind, .string x.topic, .string x.group, .int .i64 x.part, .int .i64 x.parts, .int .i64 x.first, .int .i64 x.off, .int .i64 x.bat.time, .int .i64 x.bat.prod, .int .i64 x.bat.seq, .slice A5 n5 c5], .bool ok]) ∧ RMadeR e.kind (valsE e) w'.heap.size w'' x A5 n5 c5 ok ∧ Below w'.heap.size w' w'') := fun A4 n4 c4 ms4 w4 w' h hv hb => by
              have := refMade_any e.kind Hkd.out A4 n4 c4 ms4 w' (h.ext hb) (by rw [hv]; exact Hok.out)
              rw [hv] at this
              exact this
            go_region_held3 (fun w' => Below w5.heap.size w5 w' ∧ w'.cell? ⟨w.heap.size, 0, none⟩ = some (.int .i64 e.kind) ∧ (ldE (.pointer (some ⟨w.heap.size, 0, none⟩))).run Tryz.prog w' = .ok (.agg #[.int .i64 e.kind, .string e.topic, .string e.group, .int .i64 e.part, .int .i64 e.parts, .int .i64 e.first, .int .i64 e.off, .int .i64 e.bat.time, .int .i64 e.bat.prod, .int .i64 e.bat.seq, .slice A n c]) w') (first | exact FS.out _ r0 | exact FS.out _ (KA.out _ _ _ (by assumption)) | exact FS.out _ (KD.out _ _ _ (by assumption)) | exact FS.out _ (KR.out _ _ _ _ (by assumption) (by first | exact Nat.le_refl _ | omega)) | exact FS.out _ (KC.out _ _ _ (by assumption) (by first | exact hb7 | exact hb6))) (first | (go_at_call 46; go_loud (with_reducible refine (HVv.out _ _ (by assumption)).mono ?_); go_loud (rintro er w6 ⟨v6, rfl, hv6, hb6⟩); go_loud (obtain ⟨A6, n6, c6, ms6, rfl, hrv6, hvs6⟩ := hv6); go_loud (have Hrv6 := Lib.hid hrv6); go_loud (have Hvs6 := Lib.hid (show vsOf ms6 = valsE e from hvs6)); go_loud (clear hrv6 hvs6); go_loud (have hI6 : ∀ G, isE _ G → isE w6 G := fun G h => h.ext hb6); go_loud (have hz6 : w5.heap.size ≤ w6.heap.size := (KC.out _ _ _ (by assumption) hb6).size)) | (go_at_call 47; with_reducible refine (HMm.out _ _ _ _ _ _ Hrv6.out Hvs6.out (by first | exact Below.refl _ _ | exact below_new _ _)).mono ?_; rintro er w7 ⟨x, A5, n5, c5, ok, rfl, hm7, hb7⟩; have Hm7 := Lib.hid hm7; clear hm7; have hI7 : ∀ G, isE _ G → isE w7 G := fun G h => h.ext hb7; have hz7 : w5.heap.size ≤ w7.heap.size := (KC.out _ _ _ (by assumption) hb7).size) | fail)
            all_goals
              go_wp2_with fail
              go_meet
              have s7 := hb7.size
              have s6 := hb6.size
              try simp at s6
              have p7 := Hm7.out.2.1
              try simp at s7
              try simp at p7
              refine ⟨x, A5, n5, c5, ok, _, rfl, rfl, isE.setBk (by first | (simp [isE_alloc]; done) | (simp [isE_alloc, hI7]; done) | (simp [isE_alloc, hI6, hI7]; done) | (simp [isE_alloc, isE_drew, hI6, hI7]; done)) _, ?_, ?_, (‹Below w5.heap.size w5 _ ∧ _›).1⟩
              · first
                  | exact RdT.ext Hm7.out.1 (below_row (below_new w7 _) (by simp) (Nat.le_refl _) _)
                  | exact RdT.kept Hm7.out.1 (grown_row _ _ _) (fun ad e e2 => by have := p7 ad e; have := Option.some.inj e2; omega)
              · rcases Hm7.out.2.2 with ⟨h1, h2, h3⟩ | ⟨h1, _, h3⟩
                · exact .inl ⟨h1, h2, h3⟩
                · exact .inr ⟨h1, h3⟩
          case rest =>
            obtain ⟨x, A5, n5, c5, ok, g7, rfl, rfl, hk7, hr7, hor, hb7⟩ := hcut
            have HK7 := Lib.hid hk7
            have HR7 := Lib.hid hr7
            have HB7 := Lib.hid hb7
            have HKe := Lib.hid (HK5.out.ext hb7)
            have HBe := Lib.hid (HB5.out.trans (below_le HB5.out.size hb7))
            have hne : valsE e ≠ [] := by
              intro h
              have h1 := bytes_pos Hkd.out
              rw [h] at h1
              have h2 : bytesAll (fldsE e.kind) [] = [] := by cases fldsE e.kind <;> rfl
              rw [h2] at h1
              exact absurd h1 (Nat.lt_irrefl _)
            have hri := rightE_is Hok.out hne
            rw [Hre.out] at hri
            have htl := topic_le Hkd.out Hok.out
            have hts : e.topic.size ≤ 9223372036854775807 := by have := htl.1; omega
            have hgs : e.kind = 4 → e.group.size ≤ 9223372036854775807 := fun h => by have := htl.2 h; omega
            clear hk7 hr7 hb7 hne htl
            rcases hor with ⟨rfl, hbd, hx⟩ | ⟨rfl, k, hbd⟩
            · rw [hbd, ← hx] at hri
              have hri2 : r = (namesE e && (sameR x e && sameB x.bat e.bat)) := by rw [hri]; rfl
              have Hri := Lib.hid hri2
              clear hri hri2 hbd hx
              have lx := ldE_bk HK7.out
              have le := ldE_bk HKe.out
              obtain ⟨sm, hsm⟩ : ∃ sm, (sameR x e && sameB x.bat e.bat) = sm := ⟨_, rfl⟩
              have HS := Lib.hid (refSame_any x e A5 A n5 c5 n c sm hsm wc HR7.out (RdT.ext HR.out HBe.out))
              rw [hsm] at Hri
              clear hsm
              cases sm
              · have HF : Hid (r = false) := by show r = false; rw [Hri.out, Bool.and_false]
                clear Hri hts hgs
                go_wp2_with fail
                with_reducible refine HS.out.mono ?_
                rintro er w8 ⟨rfl, hb8⟩
                have HB8 := Lib.hid (HBe.out.trans (below_le HBe.out.size hb8))
                clear hb8 HS lx le
                go_wp2_with fail
                go_ret
                exact ⟨ret_bool HF.out.symm, HB8.out⟩
              · have hr2 : r = namesE e := by rw [Hri.out, Bool.and_true]
                have hnm : (nameOk e.topic = false ∧ r = false) ∨ (nameOk e.topic = true ∧ (e.kind != 4) = true ∧ r = true) ∨ (nameOk e.topic = true ∧ (e.kind != 4) = false ∧ e.group.size ≤ 9223372036854775807 ∧ nameOk e.group = r) := by
                  rw [hr2]
                  unfold namesE
                  cases h1 : nameOk e.topic
                  · exact .inl ⟨rfl, rfl⟩
                  · by_cases h4 : e.kind = 4
                    · exact .inr (.inr ⟨rfl, by simp [h4], hgs h4, by simp [h4]⟩)
                    · exact .inr (.inl ⟨rfl, by simp [h4], by simp [h4]⟩)
                have HN := Lib.hid (refName_any e.topic hts)
                clear hr2 Hri hts hgs
                rcases hnm with ⟨hn, rfl⟩ | ⟨hn, hk4, rfl⟩ | ⟨hn, hk4, hgs, hng⟩
                · rw [hn] at HN
                  have Hn := Lib.hid hn
                  clear hn
                  go_wp2_with fail
                  with_reducible refine HS.out.mono ?_
                  rintro er w8 ⟨rfl, hb8⟩
                  have d1 : w8.cell? ⟨w.heap.size, 1, none⟩ = some (.string e.topic) := (HKe.out.ext hb8).cell 1
                  have HB8 := Lib.hid (HBe.out.trans (below_le HBe.out.size hb8))
                  clear hb8 HS lx le
                  go_wp2_with fail
                  with_reducible refine (HN.out w8).mono ?_
                  rintro er w9 ⟨rfl, rfl⟩
                  go_wp2_with fail
                  go_ret
                  exact ⟨rfl, HB8.out⟩
                · rw [hn] at HN
                  have Hn := Lib.hid hn
                  clear hn
                  go_wp2_with fail
                  with_reducible refine HS.out.mono ?_
                  rintro er w8 ⟨rfl, hb8⟩
                  have d1 : w8.cell? ⟨w.heap.size, 1, none⟩ = some (.string e.topic) := (HKe.out.ext hb8).cell 1
                  have d0 : w8.cell? ⟨w.heap.size, 0, none⟩ = some (.int .i64 e.kind) := (HKe.out.ext hb8).cell 0
                  have HB8 := Lib.hid (HBe.out.trans (below_le HBe.out.size hb8))
                  clear hb8 HS lx le
                  go_wp2_with fail
                  with_reducible refine (HN.out w8).mono ?_
                  rintro er w9 ⟨rfl, rfl⟩
                  go_wp2_with fail
                  go_ret
                  exact ⟨rfl, HB8.out⟩
                · rw [hn] at HN
                  have Hn := Lib.hid hn
                  have HG := Lib.hid (refName_any e.group hgs)
                  rw [hng] at HG
                  clear hn hng hgs
                  go_wp2_with fail
                  with_reducible refine HS.out.mono ?_
                  rintro er w8 ⟨rfl, hb8⟩
                  have d1 : w8.cell? ⟨w.heap.size, 1, none⟩ = some (.string e.topic) := (HKe.out.ext hb8).cell 1
                  have d0 : w8.cell? ⟨w.heap.size, 0, none⟩ = some (.int .i64 e.kind) := (HKe.out.ext hb8).cell 0
                  have d2 : w8.cell? ⟨w.heap.size, 2, none⟩ = some (.string e.group) := (HKe.out.ext hb8).cell 2
                  have HB8 := Lib.hid (HBe.out.trans (below_le HBe.out.size hb8))
                  clear hb8 HS lx le
                  go_wp2_with fail
                  with_reducible refine (HN.out w8).mono ?_
                  rintro er w9 ⟨rfl, rfl⟩
                  go_wp2_with fail
                  with_reducible refine (HG.out _).mono ?_
                  rintro er w9 ⟨rfl, rfl⟩
                  go_wp2_with fail
                  go_ret
                  exact ⟨rfl, HB8.out⟩
            · rw [hbd] at hri
              have HF : Hid (r = false) := by show r = false; rw [hri]; rfl
              clear hri hbd hts hgs
              go_wp2_with fail
              go_ret
              exact ⟨ret_bool HF.out.symm, HBe.out⟩
        · have hk0 : (k5 != 0) = true := by rw [bne_iff_ne]; omega
          have HF : Hid (r = false) := by
            show r = false
            rw [← Hre.out]
            refine Bool.eq_false_iff.2 (fun h => ?_)
            rw [(right_facts h).1] at hno
            cases hno
          clear hno hk5
          go_wp2_with fail
          go_ret
          exact ⟨ret_bool HF.out.symm, HB5.out⟩
set_option maxRecDepth 100000 in
set_option maxHeartbeats 4000000 in
theorem refPutE_any (e : Ent) (A : Option Addr) (n c : Nat) (w : World) (hr : RdT w A n c e.bat.vals) :
    Calls Tryz.prog 14 #[.agg #[.int .i64 e.kind, .string e.topic, .string e.group, .int .i64 e.part, .int .i64 e.parts, .int .i64 e.first, .int .i64 e.off, .int .i64 e.bat.time, .int .i64 e.bat.prod, .int .i64 e.bat.seq, .slice A n c]] w fun er w' => ∃ A' M c', er = .returned (.slice A' M c') ∧ RdB w' A' M c' (putE e) ∧ Below w.heap.size w w' := by
  have hbn := below_new w (.cells #[.int .i64 e.kind, .string e.topic, .string e.group, .int .i64 e.part, .int .i64 e.parts, .int .i64 e.first, .int .i64 e.off, .int .i64 e.bat.time, .int .i64 e.bat.prod, .int .i64 e.bat.seq, .slice A n c] 26)
  have hbk := Bk.made w 26 #[.int .i64 e.kind, .string e.topic, .string e.group, .int .i64 e.part, .int .i64 e.parts, .int .i64 e.first, .int .i64 e.off, .int .i64 e.bat.time, .int .i64 e.bat.prod, .int .i64 e.bat.seq, .slice A n c]
  have hld := ldE_bk hbk
  have HBK := Lib.hid hbk
  have HR := Lib.hid hr
  have HB0 := Lib.hid hbn
  clear hbn hbk hr
  go_enter Tryz.func14, Tryz.ntmps14
  go_wp2_with fail
  refine calls_cut (fun w' => Bk w' w.heap.size 26 #[.int .i64 e.kind, .string e.topic, .string e.group, .int .i64 e.part, .int .i64 e.parts, .int .i64 e.first, .int .i64 e.off, .int .i64 e.bat.time, .int .i64 e.bat.prod, .int .i64 e.bat.seq, .slice A n c] ∧ Below w.heap.size w w') ⟨HBK.out, HB0.out⟩ ?_
  clear hld HBK HB0
  rintro w1 ⟨hk1, hb1⟩
  obtain ⟨r, hre⟩ : ∃ r, rightE e = r := ⟨_, rfl⟩
  refine (refRight_any e A n c w1 (HR.out.ext hb1) r hre).mono ?_
  rintro er w2 ⟨rfl, hb2⟩
  have hk2 := hk1.ext hb2
  have HB2 := Lib.hid (hb1.trans (below_le hb1.size hb2))
  have Hre := Lib.hid hre
  cases r
  · clear hre hk1 hb1 hb2 hk2
    go_wp2_with fail
    go_ret
    exact ⟨none, 0, 0, rfl, by rw [putE_no Hre.out]; exact Rd.nil _ _, HB2.out⟩
  · have hok := Lib.hid (right_facts hre).1
    have hkd := Lib.hid (right_kind hre)
    have FS : Hid (∀ w', Below w2.heap.size w2 w' → (Below w2.heap.size w2 w' ∧ w'.cell? ⟨w.heap.size, 0, none⟩ = some (.int .i64 e.kind) ∧ (ldE (.pointer (some ⟨w.heap.size, 0, none⟩))).run Tryz.prog w' = .ok (.agg #[.int .i64 e.kind, .string e.topic, .string e.group, .int .i64 e.part, .int .i64 e.parts, .int .i64 e.first, .int .i64 e.off, .int .i64 e.bat.time, .int .i64 e.bat.prod, .int .i64 e.bat.seq, .slice A n c]) w')) := fun w' hb => ⟨hb, (hk2.ext hb).cell 0, ldE_bk (hk2.ext hb)⟩
    have r0 := below_drew1 (Below.refl w2.heap.size w2)
    have HF := Lib.hid (refFlds_any e.kind w2.drew)
    have HR2 := Lib.hid (HR.out.ext HB2.out)
    clear hre hk1 hb1 hb2 hk2 HR
    go_wp2_with fail
    go_region_held3 (fun w' => Below w2.heap.size w2 w' ∧ w'.cell? ⟨w.heap.size, 0, none⟩ = some (.int .i64 e.kind) ∧ (ldE (.pointer (some ⟨w.heap.size, 0, none⟩))).run Tryz.prog w' = .ok (.agg #[.int .i64 e.kind, .string e.topic, .string e.group, .int .i64 e.part, .int .i64 e.parts, .int .i64 e.first, .int .i64 e.off, .int .i64 e.bat.time, .int .i64 e.bat.prod, .int .i64 e.bat.seq, .slice A n c]) w') (first | exact FS.out _ r0 | exact FS.out _ hb5 | exact FS.out _ hx4 | exact FS.out _ hb3) (first | (go_at_call 43; (with_reducible refine HF.out.mono ?_); rintro er w3 ⟨v3, rfl, hf3, hq3⟩; have hb3 : Below w2.heap.size w2 w3 := r0.trans (below_le r0.size hq3); obtain ⟨A3, n3, c3, rfl, hrf, hn3, _⟩ := hf3; have Hrf := Lib.hid hrf) | (go_at_call 46; (with_reducible refine (refVals_any e.kind e.topic e.group e.part e.parts e.first e.off e.bat.time e.bat.prod e.bat.seq e.bat.vals A n c w3 (RdT.ext HR2.out hb3)).mono ?_); rintro er w4 ⟨v4, rfl, hv4, hb4⟩; obtain ⟨A4, n4, c4, ms, rfl, hrv, hvs⟩ := hv4; have Hrv := Lib.hid hrv; have Hvs := Lib.hid hvs; have Hf4 := Lib.hid (Hrf.out.ext hb4); have hx4 : Below w2.heap.size w2 w4 := hb3.trans (below_le hb3.size hb4)) | (go_at_call 45; (with_reducible refine (refPut_any A3 n3 c3 (fldsE e.kind) A4 n4 c4 ms w4 (flds_some _) Hf4.out Hrv.out hn3).mono ?_); rintro er w5 ⟨A5, M5, c5, k5, i5, rfl, hp5, hq5⟩; have hb5 : Below w2.heap.size w2 w5 := hx4.trans (below_le hx4.size hq5)) | fail)
    all_goals
      rw [(show vsOf ms = valsE e from Hvs.out)] at hp5
      have e0 := (FS.out _ hb5).2.1
      rcases hp5 with ⟨_, rfl, ho5⟩ | ⟨hno, _⟩
      · have HO5 := Lib.hid ho5
        have HB5 := Lib.hid (HB2.out.trans (below_le HB2.out.size hb5))
        have hkk : e.kind % 256 = e.kind := by have := hkd.out; omega
        have hw8 : Hid (w8 (UInt8.ofNat e.kind.toNat) = e.kind) := w8_kind hkd.out
        have hown : OwnB (w5.alloc (.cells #[.int .u8 (w8 (UInt8.ofNat e.kind.toNat))] 5)) w.heap.size (.slice (some ⟨w5.heap.size, 0, none⟩) 1 1) [UInt8.ofNat e.kind.toNat] :=
          ((show Bb (w5.alloc (.cells #[.int .u8 (w8 (UInt8.ofNat e.kind.toNat))] 5)) w5.heap.size 5 [UInt8.ofNat e.kind.toNat] from Bk.made w5 5 _).owns (n := 1) rfl (by omega)).own HB5.out.size 1 rfl
        rw [hw8.out] at hown
        have Hown := Lib.hid hown
        have hM5 : Hid (M5 = (bytesAll (fldsE e.kind) (valsE e)).length) := ho5.rd.len.symm
        have hM6 : Hid (M5 ≤ 600) := by
          show M5 ≤ 600
          have := putE_len e
          rw [putE_eq Hre.out, List.length_cons] at this
          rw [hM5.out]
          omega
        have hbn := Lib.hid (below_new w5 (.cells #[.int .u8 e.kind] 5))
        clear ho5 hown hw8
        go_wp2_with (first | (at_builtin; refine wpList_append_bytes rfl (.tmp 22) (.tmp 23) rfl w.heap.size w _ [UInt8.ofNat e.kind.toNat] rfl Hown.out A5 M5 c5 (bytesAll (fldsE e.kind) (valsE e)) rfl (HO5.out.rd.ext hbn.out) (by have := hM6.out; simp; omega) (HB5.out.trans (below_le HB5.out.size hbn.out)) (Nat.le_trans HB5.out.size hbn.out.size) (1 + M5) rfl ?_; intro A6 c6 w6 ho6 hb6 hs6) | fail)
        go_ret
        refine ⟨_, _, _, rfl, ?_, hb6⟩
        rw [putE_eq Hre.out]
        exact ho6.out.rd
      · rw [hok.out] at hno
        cases hno
end Go.Proofs.YtpfdbbcfcimmfaaGreatDoor
