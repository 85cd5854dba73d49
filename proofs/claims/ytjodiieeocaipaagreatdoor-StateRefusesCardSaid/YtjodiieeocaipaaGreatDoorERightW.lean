/-
  entry: Right, the walk.
-/
import Derived.Test.YtjodiieeocaipaaGreatDoorERight
namespace Go.Proofs.YtjodiieeocaipaaGreatDoor
open Go.RowKit
attribute [local go_sem ↓] ldB_eq stB_eq ldE_eq stE_eq

theorem ldB_of_ent {w : World} {G : Nat} {k : Int} {t g : ByteArray} {part parts first off time prod seq : Int} {A : Option Addr} {n c : Nat} (h : Bk w G 34 #[.int .i64 k, .string t, .string g, .int .i64 part, .int .i64 parts, .int .i64 first, .int .i64 off, .int .i64 time, .int .i64 prod, .int .i64 seq, .slice A n c]) :
    (ldB (.pointer (some ⟨G, 7, none⟩))).run Tryz.prog w = .ok (.agg #[.int .i64 time, .int .i64 prod, .int .i64 seq, .slice A n c]) w :=
  ldB_at (b := ⟨time, prod, seq, []⟩) (fun j u hu => by
    rw [h.cell]
    match j, hu with
    | 0, hu => exact hu
    | 1, hu => exact hu
    | 2, hu => exact hu
    | 3, hu => exact hu
    | j + 4, hu => exact absurd (List.getElem?_eq_some_iff.1 hu).1 (by simp [Bat.cells]))
theorem rightE_is {e : Ent} (h1 : okAll (fldsE e.kind) (valsE e) = true) (h2 : valsE e ≠ []) : rightE e = ((badE e.kind (valsE e)).isNone && (namesE e && (sameR (madeE e.kind (valsE e)) e && sameB (madeE e.kind (valsE e)).bat e.bat))) := by
  unfold rightE
  have h3 : (valsE e).isEmpty = false := by cases hv : valsE e with
    | nil => exact absurd hv h2
    | cons a l => rfl
  rw [h1, h3]
  simp only [Bool.not_false, Bool.true_and]
set_option maxRecDepth 100000 in
set_option maxHeartbeats 4000000 in
theorem eRight_any (e : Ent) (A : Option Addr) (n c : Nat) (w : World) (hr : RdT w A n c e.bat.vals) (r : Bool) (hre : rightE e = r) :
    Calls Tryz.prog 25 #[.agg #[.int .i64 e.kind, .string e.topic, .string e.group, .int .i64 e.part, .int .i64 e.parts, .int .i64 e.first, .int .i64 e.off, .int .i64 e.bat.time, .int .i64 e.bat.prod, .int .i64 e.bat.seq, .slice A n c]] w fun er w' => er = .returned (.bool r) ∧ Below w.heap.size w w' := by
  have hbn := below_new w (.cells #[.int .i64 e.kind, .string e.topic, .string e.group, .int .i64 e.part, .int .i64 e.parts, .int .i64 e.first, .int .i64 e.off, .int .i64 e.bat.time, .int .i64 e.bat.prod, .int .i64 e.bat.seq, .slice A n c] 34)
  have hbk := Bk.made w 34 #[.int .i64 e.kind, .string e.topic, .string e.group, .int .i64 e.part, .int .i64 e.parts, .int .i64 e.first, .int .i64 e.off, .int .i64 e.bat.time, .int .i64 e.bat.prod, .int .i64 e.bat.seq, .slice A n c]
  have hld := ldE_bk hbk
  have HBK := Lib.hid hbk
  have HR := Lib.hid hr
  have Hre := Lib.hid hre
  have HB0 := Lib.hid hbn
  clear hbn hbk hr hre
  go_enter Tryz.func25, Tryz.ntmps25
  go_wp2_with fail
  refine calls_cut (fun w' => Bk w' w.heap.size 34 #[.int .i64 e.kind, .string e.topic, .string e.group, .int .i64 e.part, .int .i64 e.parts, .int .i64 e.first, .int .i64 e.off, .int .i64 e.bat.time, .int .i64 e.bat.prod, .int .i64 e.bat.seq, .slice A n c] ∧ Below w.heap.size w w') ⟨HBK.out, HB0.out⟩ ?_
  clear hld HBK HB0
  rintro w1 ⟨hk1, hb1⟩
  have HK1 := Lib.hid hk1
  have HB1 := Lib.hid hb1
  refine (values_any e.kind e.topic e.group e.part e.parts e.first e.off e.bat.time e.bat.prod e.bat.seq e.bat.vals A n c w1 w1 w1.heap.size (HR.out.ext hb1) (Below.refl _ _) (Nat.le_refl _)).mono ?_
  rintro er w2 ⟨v2, rfl, hv2, hb2, hs2⟩
  obtain ⟨A2, n2, c2, ms, rfl, hrv, hvs⟩ := hv2
  have hk2 := hk1.ext hb2
  have c0 : w2.cell? ⟨w.heap.size, 0, none⟩ = some (.int .i64 e.kind) := hk2.cell 0
  have HF := Lib.hid (fields_any e.kind w2 w2 w2.heap.size (Below.refl _ _) (Nat.le_refl _))
  have HK2 := Lib.hid hk2
  have HB2 := Lib.hid (hb1.trans (below_le hb1.size hb2))
  have HRv := Lib.hid hrv
  have HVs := Lib.hid hvs
  clear hk1 hb1 hb2 hs2 hk2 hrv hvs HK1 HB1
  go_wp2_with fail
  with_reducible refine HF.out.mono ?_
  rintro er w3 ⟨v3, rfl, hf3, hb3⟩
  obtain ⟨A3, n3, c3, rfl, hrf, hn3, _⟩ := hf3
  have HRv3 := Lib.hid (HRv.out.ext hb3)
  have HK3 := Lib.hid (HK2.out.ext hb3)
  have HB3 := Lib.hid (HB2.out.trans (below_le HB2.out.size hb3))
  have HP := Lib.hid (fput_r A3 n3 c3 (fldsE e.kind) A2 n2 c2 ms w3 (flds_some _) hrf HRv3.out hn3 w3 w3.heap.size (Below.refl _ _) (Nat.le_refl _))
  clear hb3 hrf HF HRv HK2 HB2 c0 hn3
  go_wp2_with fail
  with_reducible refine HP.out.mono ?_
  rintro er w4 ⟨A4, M4, c4, v4, rfl, hp4, hb4⟩
  rw [HVs.out] at hp4
  have hng := hp4.guardN 19
  have hne := hp4.neq
  have HRv4 := Lib.hid (HRv3.out.ext hb4)
  have HK4 := Lib.hid (HK3.out.ext hb4)
  have HB4 := Lib.hid (HB3.out.trans (below_le HB3.out.size hb4))
  clear hb4 HP HRv3 HK3 HB3 hp4
  cases hok : okAll (fldsE e.kind) (valsE e)
  · rw [hok] at hne
    have Hok := Lib.hid hok
    clear hok
    go_wp2_with fail
    go_ret
    refine ⟨ret_bool ?_, HB4.out⟩
    have h := Hre.out
    unfold rightE at h
    rw [Hok.out, Bool.false_and] at h
    exact h
  · rw [hok] at hne
    have Hok := Lib.hid hok
    clear hok
    have hln : Hid (n2 = (valsE e).length) := by
      show n2 = _
      have := HRv4.out.rows.len
      rw [List.length_map] at this
      rw [← HVs.out]
      unfold vsOf
      rw [List.length_map]
      exact this.symm
    by_cases hem : valsE e = []
    · have hz : n2 = 0 := by rw [hln.out, hem]; rfl
      subst hz
      have Hem := Lib.hid hem
      clear hem
      go_wp2_with fail
      go_ret
      refine ⟨ret_bool ?_, HB4.out⟩
      have h := Hre.out
      unfold rightE at h
      rw [Hem.out] at h
      simpa using h
    · have hkind := vals_kind hem
      have hz : 0 < n2 := by rw [hln.out]; exact List.length_pos_iff.2 hem
      have hz2 : ((n2 : Int) == 0) = false := by simp; omega
      have htl := topic_le hkind Hok.out
      have Hem := Lib.hid hem
      have Hkd := Lib.hid hkind
      have Htl := Lib.hid htl
      have hok5 : okAll (fldsE e.kind) (vsOf ms) = true := by rw [HVs.out]; exact Hok.out
      have HM := Lib.hid (made_any e.kind hkind A2 n2 c2 ms w4 HRv4.out hok5)
      have d0 : w4.cell? ⟨w.heap.size, 0, none⟩ = some (.int .i64 e.kind) := HK4.out.cell 0
      clear hem hkind htl hok5 hln
      go_wp2_with fail
      with_reducible refine HM.out.mono ?_
      rintro er w5 ⟨x, A5, n5, c5, v5, rfl, hm5, hb5⟩
      rw [HVs.out] at hm5
      have hst5 := stE_newAt w5 w5.heap.size rfl x.kind x.topic x.group x.part x.parts x.first x.off x.bat.time x.bat.prod x.bat.seq A5 n5 c5 #[.int .i64 0, .string ⟨#[]⟩, .string ⟨#[]⟩, .int .i64 0, .int .i64 0, .int .i64 0, .int .i64 0, .int .i64 0, .int .i64 0, .int .i64 0, .slice none 0 0] rfl
      have hbn5 := below_new w5 (.cells #[.int .i64 x.kind, .string x.topic, .string x.group, .int .i64 x.part, .int .i64 x.parts, .int .i64 x.first, .int .i64 x.off, .int .i64 x.bat.time, .int .i64 x.bat.prod, .int .i64 x.bat.seq, .slice A5 n5 c5] 34)
      have d1 : (w5.alloc (.cells #[.int .i64 x.kind, .string x.topic, .string x.group, .int .i64 x.part, .int .i64 x.parts, .int .i64 x.first, .int .i64 x.off, .int .i64 x.bat.time, .int .i64 x.bat.prod, .int .i64 x.bat.seq, .slice A5 n5 c5] 34)).cell? ⟨w.heap.size, 1, none⟩ = some (.string e.topic) := ((HK4.out.ext hb5).ext hbn5).cell 1
      have Hm5 := Lib.hid hm5
      have HK6 := Lib.hid ((HK4.out.ext hb5).ext hbn5)
      have HX6 := Lib.hid (Bk.made w5 34 #[.int .i64 x.kind, .string x.topic, .string x.group, .int .i64 x.part, .int .i64 x.parts, .int .i64 x.first, .int .i64 x.off, .int .i64 x.bat.time, .int .i64 x.bat.prod, .int .i64 x.bat.seq, .slice A5 n5 c5])
      have HB6 := Lib.hid ((HB4.out.trans (below_le HB4.out.size hb5)).trans (below_le (Nat.le_trans HB4.out.size hb5.size) hbn5))
      have HR6 := Lib.hid (RdT.ext Hm5.out.2.1 hbn5)
      clear hm5 hb5 hbn5 HM d0 HK4 HB4 HRv4
      have hnm : (nameOk e.topic = false ∧ namesE e = false) ∨ (nameOk e.topic = true ∧ (e.kind != 4) = true ∧ namesE e = true) ∨ (nameOk e.topic = true ∧ (e.kind != 4) = false ∧ nameOk e.group = false ∧ e.group.size ≤ 24 ∧ namesE e = false) ∨ (nameOk e.topic = true ∧ (e.kind != 4) = false ∧ nameOk e.group = true ∧ e.group.size ≤ 24 ∧ namesE e = true) := by
        unfold namesE
        cases h1 : nameOk e.topic
        · exact .inl ⟨rfl, rfl⟩
        · by_cases h4 : e.kind = 4
          · cases hg : nameOk e.group
            · exact .inr (.inr (.inl ⟨rfl, by simp [h4], rfl, Htl.out.2 h4, by simp [h4]⟩))
            · exact .inr (.inr (.inr ⟨rfl, by simp [h4], rfl, Htl.out.2 h4, by simp⟩))
          · exact .inr (.inl ⟨rfl, by simp [h4], by simp [h4]⟩)
      have hts : e.topic.size ≤ 9223372036854775807 := by have := Htl.out.1; omega
      obtain ⟨nb, hnb⟩ : ∃ nb, namesE e = nb := ⟨_, rfl⟩
      rw [hnb] at hnm
      have Hnb := Lib.hid hnb
      clear hnb
      go_wp2_with fail
      refine calls_cut (fun w' => Bk w' w.heap.size 34 #[.int .i64 e.kind, .string e.topic, .string e.group, .int .i64 e.part, .int .i64 e.parts, .int .i64 e.first, .int .i64 e.off, .int .i64 e.bat.time, .int .i64 e.bat.prod, .int .i64 e.bat.seq, .slice A n c] ∧ Bk w' w5.heap.size 34 #[.int .i64 x.kind, .string x.topic, .string x.group, .int .i64 x.part, .int .i64 x.parts, .int .i64 x.first, .int .i64 x.off, .int .i64 x.bat.time, .int .i64 x.bat.prod, .int .i64 x.bat.seq, .slice A5 n5 c5] ∧ Below w.heap.size w w' ∧ RdT w' A5 n5 c5 x.bat.vals) ⟨HK6.out, HX6.out, HB6.out, HR6.out⟩ ?_
      clear d1 hst5 HK6 HX6 HB6 HR6
      rintro w6 ⟨hk6, hx6, hb6, hr6⟩
      have HK6 := Lib.hid hk6
      have HX6 := Lib.hid hx6
      have HB6 := Lib.hid hb6
      have HR6 := Lib.hid hr6
      clear hk6 hx6 hb6 hr6
      rcases hnm with ⟨hn1, rfl⟩ | ⟨hn1, hk4, rfl⟩ | ⟨hn1, hk4, hn2, hgs, rfl⟩ | ⟨hn1, hk4, hn2, hgs, rfl⟩
      case' inl =>
        have HN1 := Lib.hid (fun w => name_at e.topic false hts hn1 w)
      case' inr.inl =>
        have HN1 := Lib.hid (fun w => name_at e.topic true hts hn1 w)
      case' inr.inr.inl =>
        have HN1 := Lib.hid (fun w => name_at e.topic true hts hn1 w)
        have HN2 := Lib.hid (fun w => name_at e.group false (by omega) hn2 w)
        clear hn2 hgs
      case' inr.inr.inr =>
        have HN1 := Lib.hid (fun w => name_at e.topic true hts hn1 w)
        have HN2 := Lib.hid (fun w => name_at e.group true (by omega) hn2 w)
        clear hn2 hgs
      all_goals
        clear hn1 hts
        refine (HN1.out w6).mono ?_
        rintro er w7 ⟨rfl, hb7⟩
        have e0 : w7.cell? ⟨w.heap.size, 0, none⟩ = some (.int .i64 e.kind) := (HK6.out.ext hb7).cell 0
        have e2 : w7.cell? ⟨w.heap.size, 2, none⟩ = some (.string e.group) := (HK6.out.ext hb7).cell 2
        have HB7 := Lib.hid hb7
        clear hb7
        go_wp2_with (first | (go_at_call 47; (with_reducible refine (HN2.out _).mono ?_); rintro er w8 ⟨rfl, hb8⟩; have HB8 := Lib.hid (HB7.out.trans (below_le HB7.out.size hb8)); clear hb8 HB7 HN2; have HB7 := HB8; clear HB8) | fail)
        refine wp_cut (fun w' => Below w6.heap.size w6 w') HB7.out ?_
        clear e0 e2 HB7 HN1
        rintro w9 hb9
        have lx : ∀ t : Ext w9, (ldE (.pointer (some ⟨w5.heap.size, 0, none⟩))).run Tryz.prog t.w = .ok (.agg #[.int .i64 x.kind, .string x.topic, .string x.group, .int .i64 x.part, .int .i64 x.parts, .int .i64 x.first, .int .i64 x.off, .int .i64 x.bat.time, .int .i64 x.bat.prod, .int .i64 x.bat.seq, .slice A5 n5 c5]) t.w := fun t => ldE_bk ((HX6.out.ext hb9).ext t.below)
        have le : ∀ t : Ext w9, (ldE (.pointer (some ⟨w.heap.size, 0, none⟩))).run Tryz.prog t.w = .ok (.agg #[.int .i64 e.kind, .string e.topic, .string e.group, .int .i64 e.part, .int .i64 e.parts, .int .i64 e.first, .int .i64 e.off, .int .i64 e.bat.time, .int .i64 e.bat.prod, .int .i64 e.bat.seq, .slice A n c]) t.w := fun t => ldE_bk ((HK6.out.ext hb9).ext t.below)
        have bx : ∀ t : Ext w9, (ldB (.pointer (some ⟨w5.heap.size, 7, none⟩))).run Tryz.prog t.w = .ok (.agg #[.int .i64 x.bat.time, .int .i64 x.bat.prod, .int .i64 x.bat.seq, .slice A5 n5 c5]) t.w := fun t => ldB_of_ent ((HX6.out.ext hb9).ext t.below)
        have be : ∀ t : Ext w9, (ldB (.pointer (some ⟨w.heap.size, 7, none⟩))).run Tryz.prog t.w = .ok (.agg #[.int .i64 e.bat.time, .int .i64 e.bat.prod, .int .i64 e.bat.seq, .slice A n c]) t.w := fun t => ldB_of_ent ((HK6.out.ext hb9).ext t.below)
        have hRx := Lib.hid (fun t : Ext w9 => ext_of (restOf_any x.kind x.topic x.group x.part x.parts x.first x.off x.bat.time x.bat.prod x.bat.seq A5 n5 c5 t.w))
        have hRe := Lib.hid (fun t : Ext w9 => ext_of (restOf_any e.kind e.topic e.group e.part e.parts e.first e.off e.bat.time e.bat.prod e.bat.seq A n c t.w))
        have hSm := Lib.hid (fun t : Ext w9 => ext_of (same_any x.bat e.bat A5 A n5 c5 n c _ rfl t.w (RdT.ext (HR6.out.ext hb9) t.below) (RdT.ext (HR.out.ext (HB6.out.trans (below_le HB6.out.size hb9))) t.below)))
        have heq : ∀ w, (Op.equalIn 10000 109 (.agg #[.int .i64 x.kind, .string x.topic, .string x.group, .int .i64 x.part, .int .i64 x.parts, .int .i64 x.first, .int .i64 x.off]) (.agg #[.int .i64 e.kind, .string e.topic, .string e.group, .int .i64 e.part, .int .i64 e.parts, .int .i64 e.first, .int .i64 e.off])).run Tryz.prog w = .ok (sameR x e) w := fun w => eq_rest x e w
        have HB9 := Lib.hid hb9
        clear hb9 HK6 HX6
        have hre2 := Hre.out
        rw [rightE_is Hok.out Hem.out, Hnb.out, ← Hm5.out.1] at hre2
        have Hre2 := Lib.hid hre2
        clear hre2
        rcases Hm5.out.2.2.2 with ⟨rfl, hbad⟩ | ⟨dd, ee, hbe, hbad⟩
        · have Hbad := Lib.hid hbad
          clear hbad
          cases hsr : sameR x e
          all_goals
            rw [hsr] at heq
            have Hsr := Lib.hid hsr
            clear hsr
            refine wp_region_ext (by kernel_rfl) (by kernel_rfl) ?_
            repeat (go_big_quiet_step (first | (go_at_call 48; with_reducible exact hRx.out _) | (go_at_call 48; with_reducible exact hRe.out _) | (go_at_call 49; with_reducible exact hSm.out _)))
            refine wpQuiet_nil ?_
            intro _ hw'
            obtain ⟨t, hw''⟩ := hw'
            subst hw''
            go_wp2
            go_ret
            refine ⟨ret_bool ?_, (HB6.out.trans (below_le HB6.out.size HB9.out)).trans (below_le (Nat.le_trans HB6.out.size HB9.out.size) t.below)⟩
            rw [← Hre2.out, Hbad.out, Hsr.out]
            first | rfl | simp
        · have hen := hbe.ne_nil
          have heg := hbe.guard 46
          have Hbad := Lib.hid hbad
          clear hbad hbe
          refine wp_region_ext (by kernel_rfl) (by kernel_rfl) ?_
          repeat (go_big_quiet_step (first | (go_at_call 48; with_reducible exact hRx.out _) | (go_at_call 48; with_reducible exact hRe.out _) | (go_at_call 49; with_reducible exact hSm.out _)))
          refine wpQuiet_nil ?_
          intro _ hw'
          obtain ⟨t, hw''⟩ := hw'
          subst hw''
          go_wp2
          go_ret
          refine ⟨ret_bool ?_, (HB6.out.trans (below_le HB6.out.size HB9.out)).trans (below_le (Nat.le_trans HB6.out.size HB9.out.size) t.below)⟩
          rw [← Hre2.out, Hbad.out]
          first | rfl | simp
end Go.Proofs.YtjodiieeocaipaaGreatDoor
