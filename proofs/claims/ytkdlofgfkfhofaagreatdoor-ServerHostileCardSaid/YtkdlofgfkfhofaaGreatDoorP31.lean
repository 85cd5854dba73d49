import Derived.Test.YtkdlofgfkfhofaaGreatDoorP30
import Derived.Deep.CutRange
import Derived.Deep.RegionHeld3
import Derived.Test.YtkdlofgfkfhofaaGreatDoorP28
/-
  ask: fields.
-/
namespace Go.Proofs.YtkdlofgfkfhofaaGreatDoor
open Go.RowKit
attribute [local go_sem ↓] ldF_eq stF_eq

set_option maxRecDepth 100000 in
set_option maxHeartbeats 4000000 in
theorem afld1 (size hi : Int) (w : World) :
    Calls Tryz.prog 102 #[.int .i64 size, .int .i64 hi] w fun e w' => e = .returned (.agg #[.int .i64 1, .int .i64 size, .int .i64 0, .int .i64 hi, .int .i64 0]) ∧ Below w.heap.size w w' := by
  have hst := stF_new w (nF size 0 hi)
  have HB := Lib.hid (below_new w (.cells #[.int .i64 1, .int .i64 size, .int .i64 0, .int .i64 hi, .int .i64 0] 193))
  have HK := Lib.hid (Bk.made w 193 #[.int .i64 1, .int .i64 size, .int .i64 0, .int .i64 hi, .int .i64 0])
  simp only [nF] at hst
  go_enter Tryz.func102, Tryz.ntmps102
  go_wp2
  exact bodyPost_ret (results_cell_row rfl _ _ w.heap.size _ _ (0, 0) _ rfl HK.out Tryz.underlying193 rfl size_f) rfl ⟨rfl, HB.out⟩
theorem aRdF {k : Int} {w' : World} {g : Nat} {t : TypeId} {cs : Array Value} {n : Nat} (hb : Bk w' g t cs) (hc : cs = ((fldsA k).flatMap Fld.cells).toArray) (hn : (fldsA k).length = n) (hn' : n ≤ 100) : RdF w' (some ⟨g, 0, none⟩) n n (fldsA k) :=
  RdK.of_bk hb Fld.cells f5 (fldsA k) hc n n hn (Nat.le_refl _) (by omega)
set_option maxRecDepth 100000 in
set_option maxHeartbeats 4000000 in
theorem afields_any (k : Int) (w : World) :
    Calls Tryz.prog 58 #[.int .i64 k] w fun e w' => ∃ A n c b, e = .returned (.tuple #[.slice A n c, .bool b]) ∧ b = readK k ∧ RdF w' A n c (fldsA k) ∧ n ≤ 100 ∧ Below w.heap.size w w' := by
  have hk : k = 6 ∨ k = 7 ∨ k = 8 ∨ k = 9 ∨ ((k == 6) = false ∧ (k == 7) = false ∧ (k == 8) = false ∧ (k == 9) = false) := by
    simp only [beq_eq_false_iff_ne]
    omega
  have hst1 := stF_new w (sF 1 24)
  simp only [sF] at hst1
  have hbn1 := below_new w (.cells #[.int .i64 2, .int .i64 0, .int .i64 1, .int .i64 24, .int .i64 0] 193)
  have hk1 := Bk.made w 193 #[.int .i64 2, .int .i64 0, .int .i64 1, .int .i64 24, .int .i64 0]
  have HK1 := Lib.hid hk1
  have HB1 := Lib.hid hbn1
  have HN1 := Lib.hid (afld1 1 3 (w.alloc (.cells #[.int .i64 2, .int .i64 0, .int .i64 1, .int .i64 24, .int .i64 0] 193)))
  clear hbn1 hk1
  rcases hk with rfl | rfl | rfl | rfl | ⟨k6, k7, k8, k9⟩
  all_goals
    go_enter Tryz.func58, Tryz.ntmps58
    go_wp2_with fail
    with_reducible refine HN1.out.mono ?_
    rintro e w2 ⟨rfl, hb2⟩
    have hst2 := stF_new w2 (nF 1 0 3)
    simp only [nF] at hst2
    have hbn2 := below_new w2 (.cells #[.int .i64 1, .int .i64 1, .int .i64 0, .int .i64 3, .int .i64 0] 193)
    have hk2 := Bk.made w2 193 #[.int .i64 1, .int .i64 1, .int .i64 0, .int .i64 3, .int .i64 0]
    have HK12 := Lib.hid ((HK1.out.ext hb2).ext hbn2)
    have HK2 := Lib.hid hk2
    have HB2 := Lib.hid ((HB1.out.trans (below_le HB1.out.size hb2)).trans (below_le (Nat.le_trans HB1.out.size hb2.size) hbn2))
    clear hb2 hbn2 hk2 HN1 HK1 HB1 hst1
  · go_wp2_with fail
    go_ret2
    exact ⟨none, 0, 0, true, rfl, rfl, RdK.nil _ _, by omega, HB2.out⟩
  · go_upto_region 8 with fail
    generalize w2.alloc (.cells #[.int .i64 1, .int .i64 1, .int .i64 0, .int .i64 3, .int .i64 0] 193) = W at HK12 HK2 HB2 ⊢
    clear hst2
    have FS : Hid (∀ w', Below W.heap.size W w' → (Below W.heap.size W w' ∧ (ldF (.pointer (some ⟨w.heap.size, 0, none⟩))).run Tryz.prog w' = .ok (.agg #[.int .i64 2, .int .i64 0, .int .i64 1, .int .i64 24, .int .i64 0]) w' ∧ (ldF (.pointer (some ⟨w2.heap.size, 0, none⟩))).run Tryz.prog w' = .ok (.agg #[.int .i64 1, .int .i64 1, .int .i64 0, .int .i64 3, .int .i64 0]) w')) := fun w' hb => ⟨hb, ldF_bk (f := sF 1 24) (HK12.out.ext hb), ldF_bk (f := nF 1 0 3) (HK2.out.ext hb)⟩
    have KC : Hid (∀ (w' w'' : World) (R : Prop), Below W.heap.size W w' ∧ R → Below w'.heap.size w' w'' → Below W.heap.size W w'') := fun w' w'' R h hb => h.1.trans (below_le h.1.size hb)
    have KA : Hid (∀ (w' : World) (o : Obj) (R : Prop), Below W.heap.size W w' ∧ R → Below W.heap.size W (w'.alloc o)) := fun w' o R h => h.1.alloc h.1.size o
    have HNa : Hid (∀ (w' : World) (R : Prop), Below W.heap.size W w' ∧ R → Calls Tryz.prog 102 #[.int .i64 8, .int .i64 9223372036854775807] w' fun e w'' => e = .returned (.agg #[.int .i64 1, .int .i64 8, .int .i64 0, .int .i64 9223372036854775807, .int .i64 0]) ∧ Below w'.heap.size w' w'') := fun w' R h => afld1 8 9223372036854775807 w'
    have HNb : Hid (∀ (w' : World) (R : Prop), Below W.heap.size W w' ∧ R → Calls Tryz.prog 102 #[.int .i64 4, .int .i64 1048576] w' fun e w'' => e = .returned (.agg #[.int .i64 1, .int .i64 4, .int .i64 0, .int .i64 1048576, .int .i64 0]) ∧ Below w'.heap.size w' w'') := fun w' R h => afld1 4 1048576 w'
    go_region_held3 (fun w' => Below W.heap.size W w' ∧ (ldF (.pointer (some ⟨w.heap.size, 0, none⟩))).run Tryz.prog w' = .ok (.agg #[.int .i64 2, .int .i64 0, .int .i64 1, .int .i64 24, .int .i64 0]) w' ∧ (ldF (.pointer (some ⟨w2.heap.size, 0, none⟩))).run Tryz.prog w' = .ok (.agg #[.int .i64 1, .int .i64 1, .int .i64 0, .int .i64 3, .int .i64 0]) w') (first | exact FS.out _ (below_drew1 (Below.refl _ _)) | exact FS.out _ (KA.out _ _ _ (by assumption)) | exact FS.out _ (KC.out _ _ _ (by assumption) (by first | exact hb4 | exact hb3))) (first | (go_at_call 102; with_reducible refine (HNa.out _ _ (by assumption)).mono ?_; rintro er w3 ⟨rfl, hb3⟩; have hq3 : Below W.heap.size W w3 := KC.out _ _ _ (by assumption) hb3) | (go_at_call 102; with_reducible refine (HNb.out _ _ (by assumption)).mono ?_; rintro er w4 ⟨rfl, hb4⟩; have hq4 : Below W.heap.size W w4 := KC.out _ _ _ (by assumption) hb4) | fail)
    all_goals
      go_wp2_with fail
      go_ret2
      exact ⟨_, 4, 4, true, rfl, rfl, aRdF (Bk.made w4 _ _) rfl rfl (by omega), by omega, HB2.out.trans (below_le HB2.out.size (hq4.alloc hq4.size _))⟩
  · go_upto_region 10 with fail
    generalize w2.alloc (.cells #[.int .i64 1, .int .i64 1, .int .i64 0, .int .i64 3, .int .i64 0] 193) = W at HK12 HK2 HB2 ⊢
    clear hst2
    have FS : Hid (∀ w', Below W.heap.size W w' → (Below W.heap.size W w' ∧ (ldF (.pointer (some ⟨w.heap.size, 0, none⟩))).run Tryz.prog w' = .ok (.agg #[.int .i64 2, .int .i64 0, .int .i64 1, .int .i64 24, .int .i64 0]) w' ∧ (ldF (.pointer (some ⟨w2.heap.size, 0, none⟩))).run Tryz.prog w' = .ok (.agg #[.int .i64 1, .int .i64 1, .int .i64 0, .int .i64 3, .int .i64 0]) w')) := fun w' hb => ⟨hb, ldF_bk (f := sF 1 24) (HK12.out.ext hb), ldF_bk (f := nF 1 0 3) (HK2.out.ext hb)⟩
    have KC : Hid (∀ (w' w'' : World) (R : Prop), Below W.heap.size W w' ∧ R → Below w'.heap.size w' w'' → Below W.heap.size W w'') := fun w' w'' R h hb => h.1.trans (below_le h.1.size hb)
    have KA : Hid (∀ (w' : World) (o : Obj) (R : Prop), Below W.heap.size W w' ∧ R → Below W.heap.size W (w'.alloc o)) := fun w' o R h => h.1.alloc h.1.size o
    have HNa : Hid (∀ (w' : World) (R : Prop), Below W.heap.size W w' ∧ R → Calls Tryz.prog 102 #[.int .i64 8, .int .i64 1125899906842624] w' fun e w'' => e = .returned (.agg #[.int .i64 1, .int .i64 8, .int .i64 0, .int .i64 1125899906842624, .int .i64 0]) ∧ Below w'.heap.size w' w'') := fun w' R h => afld1 8 1125899906842624 w'
    go_region_held3 (fun w' => Below W.heap.size W w' ∧ (ldF (.pointer (some ⟨w.heap.size, 0, none⟩))).run Tryz.prog w' = .ok (.agg #[.int .i64 2, .int .i64 0, .int .i64 1, .int .i64 24, .int .i64 0]) w' ∧ (ldF (.pointer (some ⟨w2.heap.size, 0, none⟩))).run Tryz.prog w' = .ok (.agg #[.int .i64 1, .int .i64 1, .int .i64 0, .int .i64 3, .int .i64 0]) w') (first | exact FS.out _ (below_drew1 (Below.refl _ _)) | exact FS.out _ (KA.out _ _ _ (by assumption)) | exact FS.out _ (KC.out _ _ _ (by assumption) (by exact hb3))) (first | (go_at_call 102; with_reducible refine (HNa.out _ _ (by assumption)).mono ?_; rintro er w3 ⟨rfl, hb3⟩; have hq3 : Below W.heap.size W w3 := KC.out _ _ _ (by assumption) hb3) | fail)
    all_goals
      go_wp2_with fail
      go_ret2
      exact ⟨_, 3, 3, true, rfl, rfl, aRdF (Bk.made w3 _ _) rfl rfl (by omega), by omega, HB2.out.trans (below_le HB2.out.size (hq3.alloc hq3.size _))⟩
  · have l1 := ldF_bk (f := sF 1 24) HK12.out
    have l2 := ldF_bk (f := nF 1 0 3) HK2.out
    simp only [sF, nF] at l1 l2
    go_wp2_with fail
    go_ret2
    exact ⟨_, 3, 3, true, rfl, rfl, aRdF (Bk.made_at _ _ 193 _ (by simp)) rfl rfl (by omega), by omega, HB2.out.alloc HB2.out.size _⟩
  · go_wp2_with fail
    go_ret2
    simp only [beq_eq_false_iff_ne] at k6 k7 k8 k9
    refine ⟨none, 0, 0, false, rfl, ?_, ?_, by omega, HB2.out⟩
    · unfold readK
      simp [k6, k7, k8, k9]
    · unfold fldsA
      rw [if_neg k7, if_neg k8, if_neg k9]
      exact RdK.nil _ _
end Go.Proofs.YtkdlofgfkfhofaaGreatDoor

/-
  ask: values.
-/
namespace Go.Proofs.YtkdlofgfkfhofaaGreatDoor
open Go.RowKit
attribute [local go_sem ↓] ldB_eq stB_eq ldE_eq stE_eq ldA_eq stA_eq

theorem aRdV {w' : World} {g n : Nat} {t : TypeId} {cs : Array Value} (ms : List MVal) (hb : Bk w' g t cs) (hc : cs = (ms.flatMap MVal.cells).toArray) (hn : ms.length = n) (hn' : n ≤ 100) (hp : ∀ m ∈ ms, m.v.l = [] ∧ m.A = none ∧ m.n = 0 ∧ m.c = 0) :
    RdV w' (some ⟨g, 0, none⟩) n n ms := ⟨RdK.of_bk hb MVal.cells m3 ms hc n n hn (Nat.le_refl _) (by omega), plain_ok hp⟩
set_option maxRecDepth 100000 in
set_option maxHeartbeats 4000000 in
theorem avalues_any (co k : Int) (t g : ByteArray) (p1 p2 p3 p4 p5 p6 p7 p8 p9 : Int) (A : Option Addr) (n c : Nat) (vals : List ByteArray) (w : World) :
    Calls Tryz.prog 60 #[.agg #[.int .i64 co, .int .i64 k, .string t, .string g, .int .i64 p1, .int .i64 p2, .int .i64 p3, .int .i64 p4, .int .i64 p5, .int .i64 p6, .int .i64 p7, .int .i64 p8, .int .i64 p9, .slice A n c]] w fun e w' => ∃ A' n' c' ms, e = .returned (.slice A' n' c') ∧ RdV w' A' n' c' ms ∧ vsOf ms = valsA ⟨co, k, t, g, p1, p2, p3, p4, p5, p6, ⟨p7, p8, p9, vals⟩⟩ ∧ Below w.heap.size w w' := by
  have hk : k = 7 ∨ k = 8 ∨ k = 9 ∨ ((k == 7) = false ∧ (k == 8) = false ∧ (k == 9) = false) := by
    simp only [beq_eq_false_iff_ne]
    omega
  have HB := Lib.hid (below_new w (.cells #[.int .i64 co, .int .i64 k, .string t, .string g, .int .i64 p1, .int .i64 p2, .int .i64 p3, .int .i64 p4, .int .i64 p5, .int .i64 p6, .int .i64 p7, .int .i64 p8, .int .i64 p9, .slice A n c] 32))
  rcases hk with rfl | rfl | rfl | ⟨k7, k8, k9⟩
  · go_enter Tryz.func60, Tryz.ntmps60
    go_wp2
    go_ret
    exact ⟨_, _, _, [strM t, numM p1, numM p4, numM p5], rfl, aRdV [strM t, numM p1, numM p4, numM p5] (Bk.made_at _ _ 198 _ (by simp)) rfl rfl (by omega) (by simp [numM, strM, nV, sV]), rfl, HB.out.alloc (Nat.le_trans (Nat.le_refl _) HB.out.size) _⟩
  · go_enter Tryz.func60, Tryz.ntmps60
    go_wp2
    go_ret
    exact ⟨_, _, _, [strM t, numM p1, numM p6], rfl, aRdV [strM t, numM p1, numM p6] (Bk.made_at _ _ 198 _ (by simp)) rfl rfl (by omega) (by simp [numM, strM, nV, sV]), rfl, HB.out.alloc (Nat.le_trans (Nat.le_refl _) HB.out.size) _⟩
  · go_enter Tryz.func60, Tryz.ntmps60
    go_wp2
    go_ret
    exact ⟨_, _, _, [strM g, strM t, numM p1], rfl, aRdV [strM g, strM t, numM p1] (Bk.made_at _ _ 198 _ (by simp)) rfl rfl (by omega) (by simp [numM, strM, nV, sV]), rfl, HB.out.alloc (Nat.le_trans (Nat.le_refl _) HB.out.size) _⟩
  · go_enter Tryz.func60, Tryz.ntmps60
    go_wp2
    go_ret
    simp only [beq_eq_false_iff_ne] at k7 k8 k9
    refine ⟨none, 0, 0, [], rfl, ⟨RdK.nil _ _, fun m hm => absurd hm List.not_mem_nil⟩, ?_, HB.out⟩
    unfold valsA
    rw [if_neg k7, if_neg k8, if_neg k9]
    rfl
theorem aValues (a : Ask) (A : Option Addr) (n c : Nat) (w : World) :
    Calls Tryz.prog 60 #[.agg #[.int .i64 a.corr, .int .i64 a.kind, .string a.topic, .string a.group, .int .i64 a.part, .int .i64 a.parts, .int .i64 a.first, .int .i64 a.off, .int .i64 a.most, .int .i64 a.time, .int .i64 a.bat.time, .int .i64 a.bat.prod, .int .i64 a.bat.seq, .slice A n c]] w fun e w' => ∃ A' n' c' ms, e = .returned (.slice A' n' c') ∧ RdV w' A' n' c' ms ∧ vsOf ms = valsA a ∧ Below w.heap.size w w' :=
  avalues_any a.corr a.kind a.topic a.group a.part a.parts a.first a.off a.most a.time a.bat.time a.bat.prod a.bat.seq A n c a.bat.vals w
end Go.Proofs.YtkdlofgfkfhofaaGreatDoor

/-
  ask: reads.
-/
namespace Go.Proofs.YtkdlofgfkfhofaaGreatDoor
open Go.RowKit
attribute [local go_sem ↓] ldB_eq stB_eq ldE_eq stE_eq ldA_eq stA_eq
attribute [local go_sem] isA_drew isA_alloc stA_if

set_option maxRecDepth 100000 in
set_option maxHeartbeats 4000000 in
theorem reads_any (a : Ask) (A : Option Addr) (n c : Nat) (w : World) (hr : RdT w A n c a.bat.vals) (r : Bool) (hre : readsA a = r) : Calls Tryz.prog 82 #[.agg #[.int .i64 a.corr, .int .i64 a.kind, .string a.topic, .string a.group, .int .i64 a.part, .int .i64 a.parts, .int .i64 a.first, .int .i64 a.off, .int .i64 a.most, .int .i64 a.time, .int .i64 a.bat.time, .int .i64 a.bat.prod, .int .i64 a.bat.seq, .slice A n c]] w fun er w' => er = .returned (.bool r) ∧ Below w.heap.size w w' := by
  have hbk := Bk.made w 32 #[.int .i64 a.corr, .int .i64 a.kind, .string a.topic, .string a.group, .int .i64 a.part, .int .i64 a.parts, .int .i64 a.first, .int .i64 a.off, .int .i64 a.most, .int .i64 a.time, .int .i64 a.bat.time, .int .i64 a.bat.prod, .int .i64 a.bat.seq, .slice A n c]
  have hbn := below_new w (.cells #[.int .i64 a.corr, .int .i64 a.kind, .string a.topic, .string a.group, .int .i64 a.part, .int .i64 a.parts, .int .i64 a.first, .int .i64 a.off, .int .i64 a.most, .int .i64 a.time, .int .i64 a.bat.time, .int .i64 a.bat.prod, .int .i64 a.bat.seq, .slice A n c] 32)
  have HF := Lib.hid (afields_any a.kind (w.alloc (.cells #[.int .i64 a.corr, .int .i64 a.kind, .string a.topic, .string a.group, .int .i64 a.part, .int .i64 a.parts, .int .i64 a.first, .int .i64 a.off, .int .i64 a.most, .int .i64 a.time, .int .i64 a.bat.time, .int .i64 a.bat.prod, .int .i64 a.bat.seq, .slice A n c] 32)))
  have HBK := Lib.hid hbk
  have HBn := Lib.hid hbn
  have Hr := Lib.hid (hr.ext hbn)
  have Hre := Lib.hid hre
  clear hbk hbn hr hre
  go_enter Tryz.func82, Tryz.ntmps82
  go_wp2_with fail
  with_reducible refine HF.out.mono ?_
  rintro er w1 ⟨A1, n1, c1, ok, rfl, hok1, hrf, hn1, hb1⟩
  have l1 := ldA_bk (HBK.out.ext hb1)
  have HV := Lib.hid (aValues a A n c w1)
  have Hrf := Lib.hid hrf
  have Hb1 := Lib.hid hb1
  have Hok1 := Lib.hid hok1
  have Hn1 := Lib.hid hn1
  clear hrf hb1 hok1 hn1 HF
  go_wp2_with fail
  with_reducible refine HV.out.mono ?_
  rintro er w2 ⟨A2, n2, c2, ms, rfl, hrv, hvs, hb2⟩
  have HP := Lib.hid (fput_r A1 n1 c1 (fldsA a.kind) A2 n2 c2 ms w2 (fldsA_some _) (Hrf.out.ext hb2) hrv Hn1.out w2 w2.heap.size (Below.refl _ _) (Nat.le_refl _))
  have Hvs := Lib.hid hvs
  have Hb2 := Lib.hid (Hb1.out.trans (below_le Hb1.out.size hb2))
  clear hrv hvs hb2 HV l1
  go_wp2_with fail
  with_reducible refine HP.out.mono ?_
  rintro er w3 ⟨A3, M3, c3, v3, rfl, hp3, hb3⟩
  rw [Hvs.out] at hp3
  have hng := hp3.guardN 26
  have hne := hp3.neq
  have HK3 := Lib.hid (HBK.out.ext (Hb2.out.trans (below_le Hb2.out.size hb3)))
  have HB3 := Lib.hid (HBn.out.trans (below_le HBn.out.size (Hb2.out.trans (below_le Hb2.out.size hb3))))
  have HR3 := Lib.hid (Hr.out.ext (Hb2.out.trans (below_le Hb2.out.size hb3)))
  have l3 := ldA_bk HK3.out
  clear hp3 hb3 HP Hb2 Hb1 Hrf Hvs
  cases ok
  · go_wp2_with fail
    go_ret
    refine ⟨ret_bool ?_, HB3.out⟩
    rw [← Hre.out]
    unfold readsA
    rw [← Hok1.out]
    rfl
  · have HR : Hid (readK a.kind = true) := Hok1.out.symm
    clear Hok1
    cases hok : okAll (fldsA a.kind) (valsA a)
    · rw [hok] at hne
      have Hok := Lib.hid hok
      clear hok
      go_wp2_with fail
      go_ret
      refine ⟨ret_bool ?_, HB3.out⟩
      rw [← Hre.out]
      unfold readsA
      rw [HR.out, Hok.out]
      rfl
    · rw [hok] at hne
      have Hok := Lib.hid hok
      clear hok
      cases hba : bareA a
      · have HBB := Lib.hid (bare_any a A n c w3 HR3.out false hba)
        have HBa := Lib.hid hba
        clear hba
        go_wp2_with fail
        with_reducible refine HBB.out.mono ?_
        rintro er w4 ⟨rfl, hb4⟩
        have HB4 := Lib.hid (HB3.out.trans (below_le HB3.out.size hb4))
        clear hb4
        go_wp2_with fail
        go_ret
        refine ⟨ret_bool ?_, HB4.out⟩
        rw [← Hre.out]
        unfold readsA
        rw [HR.out, Hok.out, HBa.out]
        rfl
      · have HBB := Lib.hid (bare_any a A n c w3 HR3.out true hba)
        have HBa := Lib.hid hba
        clear hba
        go_wp2_with fail
        with_reducible refine HBB.out.mono ?_
        rintro er W ⟨rfl, hb4⟩
        have HB4 := Lib.hid (HB3.out.trans (below_le HB3.out.size hb4))
        have HK4 := Lib.hid (HK3.out.ext hb4)
        clear hb4 hne hng l3 HK3 HB3 HBB Hr HR3
        go_upto_region 5 with fail
        have FS : Hid (∀ w', Below W.heap.size W w' → (Below W.heap.size W w' ∧ w'.cell? ⟨w.heap.size, 1, none⟩ = some (.int .i64 a.kind) ∧ (ldA (.pointer (some ⟨w.heap.size, 0, none⟩))).run Tryz.prog w' = .ok (.agg #[.int .i64 a.corr, .int .i64 a.kind, .string a.topic, .string a.group, .int .i64 a.part, .int .i64 a.parts, .int .i64 a.first, .int .i64 a.off, .int .i64 a.most, .int .i64 a.time, .int .i64 a.bat.time, .int .i64 a.bat.prod, .int .i64 a.bat.seq, .slice A n c]) w')) := fun w' hb => ⟨hb, (HK4.out.ext hb).cell 1, ldA_bk (HK4.out.ext hb)⟩
        have KA : Hid (∀ (w' : World) (o : Obj) (R : Prop), Below W.heap.size W w' ∧ R → Below W.heap.size W (w'.alloc o)) := fun w' o R h => h.1.alloc h.1.size o
        have KD : Hid (∀ (w' : World) (o : Obj) (R : Prop), Below W.heap.size W w'.drew ∧ R → Below W.heap.size W (w'.alloc o).drew) := fun w' o R h => h.1.alloc h.1.size o
        have KR : Hid (∀ (w' : World) (g : Nat) (r : Array Value) (R : Prop), Below W.heap.size W w' ∧ R → W.heap.size ≤ g → Below W.heap.size W (w'.setRow g r)) := fun w' g r R h hg => below_row h.1 h.1.size hg r
        have KC : Hid (∀ (w' w'' : World) (R : Prop), Below W.heap.size W w' ∧ R → Below w'.heap.size w' w'' → Below W.heap.size W w'') := fun w' w'' R h hb => h.1.trans (below_le h.1.size hb)
        have HVv : Hid (∀ w' : World, Calls Tryz.prog 60 #[.agg #[.int .i64 a.corr, .int .i64 a.kind, .string a.topic, .string a.group, .int .i64 a.part, .int .i64 a.parts, .int .i64 a.first, .int .i64 a.off, .int .i64 a.most, .int .i64 a.time, .int .i64 a.bat.time, .int .i64 a.bat.prod, .int .i64 a.bat.seq, .slice A n c]] w' fun e w'' => ∃ A' n' c' ms, e = .returned (.slice A' n' c') ∧ RdV w'' A' n' c' ms ∧ vsOf ms = valsA a ∧ Below w'.heap.size w' w'') := fun w' => aValues a A n c w'
        have HMm : Hid (∀ (A4 : Option Addr) (n4 c4 : Nat) (ms4 : List MVal) (w4 w' : World), RdV w4 A4 n4 c4 ms4 → vsOf ms4 = valsA a → Below w4.heap.size w4 w' → Calls Tryz.prog 80 #[.int .i64 a.kind, .slice A4 n4 c4] w' fun e w'' => ∃ x : Ask, e = .returned (.agg #[.int .i64 x.corr, .int .i64 x.kind, .string x.topic, .string x.group, .int .i64 x.part, .int .i64 x.parts, .int .i64 x.first, .int .i64 x.off, .int .i64 x.most, .int .i64 x.time, .int .i64 x.bat.time, .int .i64 x.bat.prod, .int .i64 x.bat.seq, .slice none 0 0]) ∧ x = madeA a.kind (vsOf ms4) ∧ x.bat.vals = [] ∧ Below w'.heap.size w' w'') := fun A4 n4 c4 ms4 w4 w' h hv hb => amade_any a.kind HR.out A4 n4 c4 ms4 w' (h.ext hb) (by rw [hv]; exact Hok.out)
        go_cut [7] from 34 to 100 (fun s7 wx => ∃ (x : Ask) (g7 : Nat), s7 = .pointer (some ⟨g7, 0, none⟩) ∧ x = madeA a.kind (valsA a) ∧ Bk wx g7 32 #[.int .i64 x.corr, .int .i64 x.kind, .string x.topic, .string x.group, .int .i64 x.part, .int .i64 x.parts, .int .i64 x.first, .int .i64 x.off, .int .i64 x.most, .int .i64 x.time, .int .i64 x.bat.time, .int .i64 x.bat.prod, .int .i64 x.bat.seq, .slice none 0 0] ∧ Below W.heap.size W wx)
        case first =>
          go_region_held3 (fun w' => Below W.heap.size W w' ∧ w'.cell? ⟨w.heap.size, 1, none⟩ = some (.int .i64 a.kind) ∧ (ldA (.pointer (some ⟨w.heap.size, 0, none⟩))).run Tryz.prog w' = .ok (.agg #[.int .i64 a.corr, .int .i64 a.kind, .string a.topic, .string a.group, .int .i64 a.part, .int .i64 a.parts, .int .i64 a.first, .int .i64 a.off, .int .i64 a.most, .int .i64 a.time, .int .i64 a.bat.time, .int .i64 a.bat.prod, .int .i64 a.bat.seq, .slice A n c]) w') (first | exact FS.out _ (below_drew1 (Below.refl _ _)) | exact FS.out _ (KA.out _ _ _ (by assumption)) | exact FS.out _ (KD.out _ _ _ (by assumption)) | exact FS.out _ (KR.out _ _ _ _ (by assumption) (by first | exact Nat.le_refl _ | omega)) | exact FS.out _ (KC.out _ _ _ (by assumption) (by first | exact hb5 | exact hb4))) (first | (go_at_call 60; with_reducible refine (HVv.out _).mono ?_; rintro er w4 ⟨A4, n4, c4, ms4, rfl, hrv4, hvs4, hb4⟩; have Hrv4 := Lib.hid hrv4; have Hvs4 := Lib.hid hvs4; clear hrv4 hvs4; have hI4 : ∀ G, isA _ G → isA w4 G := fun G h => h.ext hb4; have hz4 : W.heap.size ≤ w4.heap.size := (KC.out _ _ _ (by assumption) hb4).size) | (go_at_call 80; with_reducible refine (HMm.out _ _ _ _ _ _ Hrv4.out Hvs4.out (by first | exact Below.refl _ _ | exact below_new _ _)).mono ?_; rintro er w5 ⟨x, rfl, hx5, _, hb5⟩; rw [Hvs4.out] at hx5; have Hx5 := Lib.hid hx5; clear hx5; have hI5 : ∀ G, isA _ G → isA w5 G := fun G h => h.ext hb5; have hz5 : W.heap.size ≤ w5.heap.size := (KC.out _ _ _ (by assumption) hb5).size) | fail)
          all_goals (go_wp2_with fail; go_meet; exact ⟨x, _, rfl, Hx5.out, isA.setBk (by simp [isA_alloc, isA_drew, hI4, hI5]) _, (‹Below W.heap.size W _ ∧ _›).1⟩)
        case rest =>
          obtain ⟨x, g7, rfl, hx, hk7, hbx⟩ := hcut
          have Hx := Lib.hid hx
          have HKx := Lib.hid hk7
          have HK7 := Lib.hid (HK4.out.ext hbx)
          have HB7 := Lib.hid (HB4.out.trans (below_le HB4.out.size hbx))
          have Htl := Lib.hid (topicA_le HR.out Hok.out)
          have c1 : wc.cell? ⟨w.heap.size, 1, none⟩ = some (.int .i64 a.kind) := HK7.out.cell 1
          have a2 : wc.cell? ⟨w.heap.size, 2, none⟩ = some (.string a.topic) := HK7.out.cell 2
          have x2 : wc.cell? ⟨g7, 2, none⟩ = some (.string x.topic) := HKx.out.cell 2
          have a3 : wc.cell? ⟨w.heap.size, 3, none⟩ = some (.string a.group) := HK7.out.cell 3
          have x3 : wc.cell? ⟨g7, 3, none⟩ = some (.string x.group) := HKx.out.cell 3
          have a4 : wc.cell? ⟨w.heap.size, 4, none⟩ = some (.int .i64 a.part) := HK7.out.cell 4
          have x4 : wc.cell? ⟨g7, 4, none⟩ = some (.int .i64 x.part) := HKx.out.cell 4
          have a7 : wc.cell? ⟨w.heap.size, 7, none⟩ = some (.int .i64 a.off) := HK7.out.cell 7
          have x7 : wc.cell? ⟨g7, 7, none⟩ = some (.int .i64 x.off) := HKx.out.cell 7
          have a8 : wc.cell? ⟨w.heap.size, 8, none⟩ = some (.int .i64 a.most) := HK7.out.cell 8
          have x8 : wc.cell? ⟨g7, 8, none⟩ = some (.int .i64 x.most) := HKx.out.cell 8
          have a9 : wc.cell? ⟨w.heap.size, 9, none⟩ = some (.int .i64 a.time) := HK7.out.cell 9
          have x9 : wc.cell? ⟨g7, 9, none⟩ = some (.int .i64 x.time) := HKx.out.cell 9
          clear hx hk7 hbx FS KA KD KR KC HVv HMm HK4 HB4
          by_cases h : x.topic = a.topic
          · have r0 : (x.topic.toList == a.topic.toList) = true := by rw [str_eq]; simp [h]
            have R0 := Lib.hid h
            clear h
            by_cases h : x.group = a.group
            · have r1 : (x.group.toList == a.group.toList) = true := by rw [str_eq]; simp [h]
              have R1 := Lib.hid h
              clear h
              by_cases h : x.part = a.part
              · have r2 : (x.part == a.part) = true := by simp [h]
                have R2 := Lib.hid h
                clear h
                by_cases h : x.off = a.off
                · have r3 : (x.off == a.off) = true := by simp [h]
                  have R3 := Lib.hid h
                  clear h
                  by_cases h : x.most = a.most
                  · have r4 : (x.most == a.most) = true := by simp [h]
                    have R4 := Lib.hid h
                    clear h
                    by_cases h : x.time = a.time
                    · have r5 : (x.time == a.time) = true := by simp [h]
                      have R5 := Lib.hid h
                      clear h
                      by_cases h6 : a.kind = 6
                      · have q6 : (a.kind == 6) = true := by simp [h6]
                        have H6 := Lib.hid h6
                        have q9 : (a.kind != 9) = true := by rw [h6]; rfl
                        clear h6
                        go_wp2_with fail
                        go_ret
                        have HBz := HB7.out
                        exact ⟨ret_bool (by rw [← Hre.out, readsA_is HR.out Hok.out HBa.out Hx.out]; simp [sameA, R0.out, R1.out, R2.out, R3.out, R4.out, R5.out, H6.out]), HBz⟩
                      · have q6 : (a.kind == 6) = false := by simp [h6]
                        have hts : a.topic.size ≤ 9223372036854775807 := by have := Htl.out.1 h6; omega
                        have H6 := Lib.hid h6
                        clear h6
                        cases hn : nameOk a.topic
                        · have HN := Lib.hid (name_at a.topic false hts hn wc)
                          have Hn := Lib.hid hn
                          clear hts hn
                          go_wp2_with fail
                          with_reducible refine HN.out.mono ?_
                          rintro er w8 ⟨rfl, hb8⟩
                          have e1 : w8.cell? ⟨w.heap.size, 1, none⟩ = some (.int .i64 a.kind) := (HK7.out.ext hb8).cell 1
                          have e3 : w8.cell? ⟨w.heap.size, 3, none⟩ = some (.string a.group) := (HK7.out.ext hb8).cell 3
                          have HB8 := Lib.hid (HB7.out.trans (below_le HB7.out.size hb8))
                          clear hb8
                          go_wp2_with fail
                          go_ret
                          have HBz := HB8.out
                          exact ⟨ret_bool (by rw [← Hre.out, readsA_is HR.out Hok.out HBa.out Hx.out]; simp [sameA, R0.out, R1.out, R2.out, R3.out, R4.out, R5.out, H6.out, Hn.out]), HBz⟩
                        · have HN := Lib.hid (name_at a.topic true hts hn wc)
                          have Hn := Lib.hid hn
                          clear hts hn
                          go_wp2_with fail
                          with_reducible refine HN.out.mono ?_
                          rintro er w8 ⟨rfl, hb8⟩
                          have e1 : w8.cell? ⟨w.heap.size, 1, none⟩ = some (.int .i64 a.kind) := (HK7.out.ext hb8).cell 1
                          have e3 : w8.cell? ⟨w.heap.size, 3, none⟩ = some (.string a.group) := (HK7.out.ext hb8).cell 3
                          have HB8 := Lib.hid (HB7.out.trans (below_le HB7.out.size hb8))
                          clear hb8
                          by_cases h9 : a.kind = 9
                          · have q9 : (a.kind != 9) = false := by rw [h9]; rfl
                            have hgs : a.group.size ≤ 9223372036854775807 := by have := Htl.out.2 h9; omega
                            have H9 := Lib.hid h9
                            clear h9
                            have HN2 := Lib.hid (name_any a.group hgs w8)
                            clear hgs
                            go_wp2_with fail
                            with_reducible refine HN2.out.mono ?_
                            rintro er w9 ⟨rfl, hb9⟩
                            have HB9 := Lib.hid (HB8.out.trans (below_le HB8.out.size hb9))
                            clear hb9
                            go_wp2_with fail
                            go_ret
                            have HBz := HB9.out
                            exact ⟨ret_bool (by rw [← Hre.out, readsA_is HR.out Hok.out HBa.out Hx.out]; simp [sameA, R0.out, R1.out, R2.out, R3.out, R4.out, R5.out, Hn.out, H9.out]), HBz⟩
                          · have q9 : (a.kind != 9) = true := by simp [h9]
                            have H9 := Lib.hid h9
                            clear h9
                            go_wp2_with fail
                            go_ret
                            have HBz := HB8.out
                            exact ⟨ret_bool (by rw [← Hre.out, readsA_is HR.out Hok.out HBa.out Hx.out]; simp [sameA, R0.out, R1.out, R2.out, R3.out, R4.out, R5.out, H6.out, Hn.out, H9.out]), HBz⟩
                    · have r5 : (x.time == a.time) = false := by simp [h]
                      have R5 := Lib.hid h
                      clear h
                      by_cases h6 : a.kind = 6
                      · have q6 : (a.kind == 6) = true := by simp [h6]
                        have H6 := Lib.hid h6
                        clear h6
                        go_wp2_with fail
                        go_ret
                        have HBz := HB7.out
                        exact ⟨ret_bool (by rw [← Hre.out, readsA_is HR.out Hok.out HBa.out Hx.out]; simp [sameA, R0.out, R1.out, R2.out, R3.out, R4.out, R5.out, H6.out]), HBz⟩
                      · have q6 : (a.kind == 6) = false := by simp [h6]
                        have hts : a.topic.size ≤ 9223372036854775807 := by have := Htl.out.1 h6; omega
                        have H6 := Lib.hid h6
                        clear h6
                        have HN := Lib.hid (name_any a.topic hts wc)
                        clear hts
                        go_wp2_with fail
                        with_reducible refine HN.out.mono ?_
                        rintro er w8 ⟨rfl, hb8⟩
                        have HBz := HB7.out.trans (below_le HB7.out.size hb8)
                        clear hb8
                        have HBz' := Lib.hid HBz
                        clear HBz
                        go_wp2_with fail
                        go_ret
                        have HBz := HBz'.out
                        exact ⟨ret_bool (by rw [← Hre.out, readsA_is HR.out Hok.out HBa.out Hx.out]; simp [sameA, R0.out, R1.out, R2.out, R3.out, R4.out, R5.out, H6.out]), HBz⟩
                  · have r4 : (x.most == a.most) = false := by simp [h]
                    have R4 := Lib.hid h
                    clear h
                    by_cases h6 : a.kind = 6
                    · have q6 : (a.kind == 6) = true := by simp [h6]
                      have H6 := Lib.hid h6
                      clear h6
                      go_wp2_with fail
                      go_ret
                      have HBz := HB7.out
                      exact ⟨ret_bool (by rw [← Hre.out, readsA_is HR.out Hok.out HBa.out Hx.out]; simp [sameA, R0.out, R1.out, R2.out, R3.out, R4.out, H6.out]), HBz⟩
                    · have q6 : (a.kind == 6) = false := by simp [h6]
                      have hts : a.topic.size ≤ 9223372036854775807 := by have := Htl.out.1 h6; omega
                      have H6 := Lib.hid h6
                      clear h6
                      have HN := Lib.hid (name_any a.topic hts wc)
                      clear hts
                      go_wp2_with fail
                      with_reducible refine HN.out.mono ?_
                      rintro er w8 ⟨rfl, hb8⟩
                      have HBz := HB7.out.trans (below_le HB7.out.size hb8)
                      clear hb8
                      have HBz' := Lib.hid HBz
                      clear HBz
                      go_wp2_with fail
                      go_ret
                      have HBz := HBz'.out
                      exact ⟨ret_bool (by rw [← Hre.out, readsA_is HR.out Hok.out HBa.out Hx.out]; simp [sameA, R0.out, R1.out, R2.out, R3.out, R4.out, H6.out]), HBz⟩
                · have r3 : (x.off == a.off) = false := by simp [h]
                  have R3 := Lib.hid h
                  clear h
                  by_cases h6 : a.kind = 6
                  · have q6 : (a.kind == 6) = true := by simp [h6]
                    have H6 := Lib.hid h6
                    clear h6
                    go_wp2_with fail
                    go_ret
                    have HBz := HB7.out
                    exact ⟨ret_bool (by rw [← Hre.out, readsA_is HR.out Hok.out HBa.out Hx.out]; simp [sameA, R0.out, R1.out, R2.out, R3.out, H6.out]), HBz⟩
                  · have q6 : (a.kind == 6) = false := by simp [h6]
                    have hts : a.topic.size ≤ 9223372036854775807 := by have := Htl.out.1 h6; omega
                    have H6 := Lib.hid h6
                    clear h6
                    have HN := Lib.hid (name_any a.topic hts wc)
                    clear hts
                    go_wp2_with fail
                    with_reducible refine HN.out.mono ?_
                    rintro er w8 ⟨rfl, hb8⟩
                    have HBz := HB7.out.trans (below_le HB7.out.size hb8)
                    clear hb8
                    have HBz' := Lib.hid HBz
                    clear HBz
                    go_wp2_with fail
                    go_ret
                    have HBz := HBz'.out
                    exact ⟨ret_bool (by rw [← Hre.out, readsA_is HR.out Hok.out HBa.out Hx.out]; simp [sameA, R0.out, R1.out, R2.out, R3.out, H6.out]), HBz⟩
              · have r2 : (x.part == a.part) = false := by simp [h]
                have R2 := Lib.hid h
                clear h
                by_cases h6 : a.kind = 6
                · have q6 : (a.kind == 6) = true := by simp [h6]
                  have H6 := Lib.hid h6
                  clear h6
                  go_wp2_with fail
                  go_ret
                  have HBz := HB7.out
                  exact ⟨ret_bool (by rw [← Hre.out, readsA_is HR.out Hok.out HBa.out Hx.out]; simp [sameA, R0.out, R1.out, R2.out, H6.out]), HBz⟩
                · have q6 : (a.kind == 6) = false := by simp [h6]
                  have hts : a.topic.size ≤ 9223372036854775807 := by have := Htl.out.1 h6; omega
                  have H6 := Lib.hid h6
                  clear h6
                  have HN := Lib.hid (name_any a.topic hts wc)
                  clear hts
                  go_wp2_with fail
                  with_reducible refine HN.out.mono ?_
                  rintro er w8 ⟨rfl, hb8⟩
                  have HBz := HB7.out.trans (below_le HB7.out.size hb8)
                  clear hb8
                  have HBz' := Lib.hid HBz
                  clear HBz
                  go_wp2_with fail
                  go_ret
                  have HBz := HBz'.out
                  exact ⟨ret_bool (by rw [← Hre.out, readsA_is HR.out Hok.out HBa.out Hx.out]; simp [sameA, R0.out, R1.out, R2.out, H6.out]), HBz⟩
            · have r1 : (x.group.toList == a.group.toList) = false := by rw [str_eq]; simp [h]
              have R1 := Lib.hid h
              clear h
              by_cases h6 : a.kind = 6
              · have q6 : (a.kind == 6) = true := by simp [h6]
                have H6 := Lib.hid h6
                clear h6
                go_wp2_with fail
                go_ret
                have HBz := HB7.out
                exact ⟨ret_bool (by rw [← Hre.out, readsA_is HR.out Hok.out HBa.out Hx.out]; simp [sameA, R0.out, R1.out, H6.out]), HBz⟩
              · have q6 : (a.kind == 6) = false := by simp [h6]
                have hts : a.topic.size ≤ 9223372036854775807 := by have := Htl.out.1 h6; omega
                have H6 := Lib.hid h6
                clear h6
                have HN := Lib.hid (name_any a.topic hts wc)
                clear hts
                go_wp2_with fail
                with_reducible refine HN.out.mono ?_
                rintro er w8 ⟨rfl, hb8⟩
                have HBz := HB7.out.trans (below_le HB7.out.size hb8)
                clear hb8
                have HBz' := Lib.hid HBz
                clear HBz
                go_wp2_with fail
                go_ret
                have HBz := HBz'.out
                exact ⟨ret_bool (by rw [← Hre.out, readsA_is HR.out Hok.out HBa.out Hx.out]; simp [sameA, R0.out, R1.out, H6.out]), HBz⟩
          · have r0 : (x.topic.toList == a.topic.toList) = false := by rw [str_eq]; simp [h]
            have R0 := Lib.hid h
            clear h
            by_cases h6 : a.kind = 6
            · have q6 : (a.kind == 6) = true := by simp [h6]
              have H6 := Lib.hid h6
              clear h6
              go_wp2_with fail
              go_ret
              have HBz := HB7.out
              exact ⟨ret_bool (by rw [← Hre.out, readsA_is HR.out Hok.out HBa.out Hx.out]; simp [sameA, R0.out, H6.out]), HBz⟩
            · have q6 : (a.kind == 6) = false := by simp [h6]
              have hts : a.topic.size ≤ 9223372036854775807 := by have := Htl.out.1 h6; omega
              have H6 := Lib.hid h6
              clear h6
              have HN := Lib.hid (name_any a.topic hts wc)
              clear hts
              go_wp2_with fail
              with_reducible refine HN.out.mono ?_
              rintro er w8 ⟨rfl, hb8⟩
              have HBz := HB7.out.trans (below_le HB7.out.size hb8)
              clear hb8
              have HBz' := Lib.hid HBz
              clear HBz
              go_wp2_with fail
              go_ret
              have HBz := HBz'.out
              exact ⟨ret_bool (by rw [← Hre.out, readsA_is HR.out Hok.out HBa.out Hx.out]; simp [sameA, R0.out, H6.out]), HBz⟩
end Go.Proofs.YtkdlofgfkfhofaaGreatDoor
