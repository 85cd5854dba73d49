/-
  staveref19: SameAsk, RightAsk.
-/
import Derived.Test.YtpfdbbcfcimmfaaGreatDoorARef1
import Derived.Test.YtpfdbbcfcimmfaaGreatDoorRRight
import Derived.Test.YtpfdbbcfcimmfaaGreatDoorAsk
import Derived.Deep.CutRange
import Derived.Deep.RegionHeld3
namespace Go.Proofs.YtpfdbbcfcimmfaaGreatDoor
open Go.RowKit
attribute [local go_sem ↓] ldB_eq stB_eq ldE_eq stE_eq ldA_eq stA_eq

set_option maxRecDepth 100000 in
set_option maxHeartbeats 4000000 in
theorem refSameAsk_any (x y : Ask) (A A' : Option Addr) (n c n' c' : Nat) (r : Bool) (hre : (decide (x.corr = y.corr) && (decide (x.most = y.most) && (decide (x.time = y.time) && (sameR x.ent y.ent && sameB x.bat y.bat)))) = r) (w : World) (hx : RdT w A n c x.bat.vals) (hy : RdT w A' n' c' y.bat.vals) :
    Calls Tryz.prog 34 #[.agg #[.int .i64 x.corr, .int .i64 x.kind, .string x.topic, .string x.group, .int .i64 x.part, .int .i64 x.parts, .int .i64 x.first, .int .i64 x.off, .int .i64 x.most, .int .i64 x.time, .int .i64 x.bat.time, .int .i64 x.bat.prod, .int .i64 x.bat.seq, .slice A n c], .agg #[.int .i64 y.corr, .int .i64 y.kind, .string y.topic, .string y.group, .int .i64 y.part, .int .i64 y.parts, .int .i64 y.first, .int .i64 y.off, .int .i64 y.most, .int .i64 y.time, .int .i64 y.bat.time, .int .i64 y.bat.prod, .int .i64 y.bat.seq, .slice A' n' c']] w fun er w' => er = .returned (.bool r) ∧ Below w.heap.size w w' := by
  have HB := Lib.hid (below_two w (.cells #[.int .i64 x.corr, .int .i64 x.kind, .string x.topic, .string x.group, .int .i64 x.part, .int .i64 x.parts, .int .i64 x.first, .int .i64 x.off, .int .i64 x.most, .int .i64 x.time, .int .i64 x.bat.time, .int .i64 x.bat.prod, .int .i64 x.bat.seq, .slice A n c] 47) (.cells #[.int .i64 y.corr, .int .i64 y.kind, .string y.topic, .string y.group, .int .i64 y.part, .int .i64 y.parts, .int .i64 y.first, .int .i64 y.off, .int .i64 y.most, .int .i64 y.time, .int .i64 y.bat.time, .int .i64 y.bat.prod, .int .i64 y.bat.seq, .slice A' n' c'] 47))
  have HK1 := Lib.hid ((Bk.made w 47 #[.int .i64 x.corr, .int .i64 x.kind, .string x.topic, .string x.group, .int .i64 x.part, .int .i64 x.parts, .int .i64 x.first, .int .i64 x.off, .int .i64 x.most, .int .i64 x.time, .int .i64 x.bat.time, .int .i64 x.bat.prod, .int .i64 x.bat.seq, .slice A n c]).alloc (.cells #[.int .i64 y.corr, .int .i64 y.kind, .string y.topic, .string y.group, .int .i64 y.part, .int .i64 y.parts, .int .i64 y.first, .int .i64 y.off, .int .i64 y.most, .int .i64 y.time, .int .i64 y.bat.time, .int .i64 y.bat.prod, .int .i64 y.bat.seq, .slice A' n' c'] 47))
  have HK2 := Lib.hid (Bk.made_at (w.alloc (.cells #[.int .i64 x.corr, .int .i64 x.kind, .string x.topic, .string x.group, .int .i64 x.part, .int .i64 x.parts, .int .i64 x.first, .int .i64 x.off, .int .i64 x.most, .int .i64 x.time, .int .i64 x.bat.time, .int .i64 x.bat.prod, .int .i64 x.bat.seq, .slice A n c] 47)) (w.heap.size + 1) 47 #[.int .i64 y.corr, .int .i64 y.kind, .string y.topic, .string y.group, .int .i64 y.part, .int .i64 y.parts, .int .i64 y.first, .int .i64 y.off, .int .i64 y.most, .int .i64 y.time, .int .i64 y.bat.time, .int .i64 y.bat.prod, .int .i64 y.bat.seq, .slice A' n' c'] (by simp))
  have HX := Lib.hid (hx.ext HB.out)
  have HY := Lib.hid (hy.ext HB.out)
  have Hr := Lib.hid hre
  clear hx hy hre
  go_enter Tryz.func34, Tryz.ntmps34
  go_upto_region 1 with fail
  generalize ((w.alloc (.cells #[.int .i64 x.corr, .int .i64 x.kind, .string x.topic, .string x.group, .int .i64 x.part, .int .i64 x.parts, .int .i64 x.first, .int .i64 x.off, .int .i64 x.most, .int .i64 x.time, .int .i64 x.bat.time, .int .i64 x.bat.prod, .int .i64 x.bat.seq, .slice A n c] 47)).alloc (.cells #[.int .i64 y.corr, .int .i64 y.kind, .string y.topic, .string y.group, .int .i64 y.part, .int .i64 y.parts, .int .i64 y.first, .int .i64 y.off, .int .i64 y.most, .int .i64 y.time, .int .i64 y.bat.time, .int .i64 y.bat.prod, .int .i64 y.bat.seq, .slice A' n' c'] 47)) = W at HB HK1 HK2 HX HY ⊢
  have z10 : ∀ q, (W.drewN q).cell? ⟨w.heap.size, 0, none⟩ = some (.int .i64 x.corr) := fun q => (HK1.out.cell 0).trans rfl
  have z18 : ∀ q, (W.drewN q).cell? ⟨w.heap.size, 8, none⟩ = some (.int .i64 x.most) := fun q => (HK1.out.cell 8).trans rfl
  have z19 : ∀ q, (W.drewN q).cell? ⟨w.heap.size, 9, none⟩ = some (.int .i64 x.time) := fun q => (HK1.out.cell 9).trans rfl
  have z20 : ∀ q, (W.drewN q).cell? ⟨w.heap.size + 1, 0, none⟩ = some (.int .i64 y.corr) := fun q => (HK2.out.cell 0).trans rfl
  have z28 : ∀ q, (W.drewN q).cell? ⟨w.heap.size + 1, 8, none⟩ = some (.int .i64 y.most) := fun q => (HK2.out.cell 8).trans rfl
  have z29 : ∀ q, (W.drewN q).cell? ⟨w.heap.size + 1, 9, none⟩ = some (.int .i64 y.time) := fun q => (HK2.out.cell 9).trans rfl
  by_cases h : x.corr = y.corr
  · have q0 : (x.corr == y.corr) = true := by simp [h]
    have H0 := Lib.hid h
    clear h
    by_cases h : x.most = y.most
    · have q1 : (x.most == y.most) = true := by simp [h]
      have H1 := Lib.hid h
      clear h
      by_cases h : x.time = y.time
      · have q2 : (x.time == y.time) = true := by simp [h]
        have H2 := Lib.hid h
        clear h
        have FS : Hid (∀ w', Below W.heap.size W w' → (Below W.heap.size W w' ∧ w'.cell? ⟨w.heap.size, 0, none⟩ = some (.int .i64 x.corr) ∧ w'.cell? ⟨w.heap.size, 8, none⟩ = some (.int .i64 x.most) ∧ w'.cell? ⟨w.heap.size, 9, none⟩ = some (.int .i64 x.time) ∧ w'.cell? ⟨w.heap.size + 1, 0, none⟩ = some (.int .i64 y.corr) ∧ w'.cell? ⟨w.heap.size + 1, 8, none⟩ = some (.int .i64 y.most) ∧ w'.cell? ⟨w.heap.size + 1, 9, none⟩ = some (.int .i64 y.time) ∧ (ldA (.pointer (some ⟨w.heap.size, 0, none⟩))).run Tryz.prog w' = .ok (.agg #[.int .i64 x.corr, .int .i64 x.kind, .string x.topic, .string x.group, .int .i64 x.part, .int .i64 x.parts, .int .i64 x.first, .int .i64 x.off, .int .i64 x.most, .int .i64 x.time, .int .i64 x.bat.time, .int .i64 x.bat.prod, .int .i64 x.bat.seq, .slice A n c]) w' ∧ (ldA (.pointer (some ⟨w.heap.size + 1, 0, none⟩))).run Tryz.prog w' = .ok (.agg #[.int .i64 y.corr, .int .i64 y.kind, .string y.topic, .string y.group, .int .i64 y.part, .int .i64 y.parts, .int .i64 y.first, .int .i64 y.off, .int .i64 y.most, .int .i64 y.time, .int .i64 y.bat.time, .int .i64 y.bat.prod, .int .i64 y.bat.seq, .slice A' n' c']) w')) := fun w' hb => ⟨hb, (HK1.out.ext hb).cell 0, (HK1.out.ext hb).cell 8, (HK1.out.ext hb).cell 9, (HK2.out.ext hb).cell 0, (HK2.out.ext hb).cell 8, (HK2.out.ext hb).cell 9, ldA_bk (HK1.out.ext hb), ldA_bk (HK2.out.ext hb)⟩
        have KC : Hid (∀ (w' w'' : World) (R : Prop), Below W.heap.size W w' ∧ R → Below w'.heap.size w' w'' → Below W.heap.size W w'') := fun w' w'' R h hb => h.1.trans (below_le h.1.size hb)
        have HE1 : Hid (∀ w', Calls Tryz.prog 31 #[.agg #[.int .i64 x.corr, .int .i64 x.kind, .string x.topic, .string x.group, .int .i64 x.part, .int .i64 x.parts, .int .i64 x.first, .int .i64 x.off, .int .i64 x.most, .int .i64 x.time, .int .i64 x.bat.time, .int .i64 x.bat.prod, .int .i64 x.bat.seq, .slice A n c]] w' fun er w'' => er = .returned (.agg #[.int .i64 x.kind, .string x.topic, .string x.group, .int .i64 x.part, .int .i64 x.parts, .int .i64 x.first, .int .i64 x.off, .int .i64 x.bat.time, .int .i64 x.bat.prod, .int .i64 x.bat.seq, .slice A n c]) ∧ Below w'.heap.size w' w'') := fun w' => refEntOf_any x A n c w'
        have HE2 : Hid (∀ w', Calls Tryz.prog 31 #[.agg #[.int .i64 y.corr, .int .i64 y.kind, .string y.topic, .string y.group, .int .i64 y.part, .int .i64 y.parts, .int .i64 y.first, .int .i64 y.off, .int .i64 y.most, .int .i64 y.time, .int .i64 y.bat.time, .int .i64 y.bat.prod, .int .i64 y.bat.seq, .slice A' n' c']] w' fun er w'' => er = .returned (.agg #[.int .i64 y.kind, .string y.topic, .string y.group, .int .i64 y.part, .int .i64 y.parts, .int .i64 y.first, .int .i64 y.off, .int .i64 y.bat.time, .int .i64 y.bat.prod, .int .i64 y.bat.seq, .slice A' n' c']) ∧ Below w'.heap.size w' w'') := fun w' => refEntOf_any y A' n' c' w'
        have HS : Hid (∀ (w' : World) (R : Prop), Below W.heap.size W w' ∧ R → Calls Tryz.prog 19 #[.agg #[.int .i64 x.kind, .string x.topic, .string x.group, .int .i64 x.part, .int .i64 x.parts, .int .i64 x.first, .int .i64 x.off, .int .i64 x.bat.time, .int .i64 x.bat.prod, .int .i64 x.bat.seq, .slice A n c], .agg #[.int .i64 y.kind, .string y.topic, .string y.group, .int .i64 y.part, .int .i64 y.parts, .int .i64 y.first, .int .i64 y.off, .int .i64 y.bat.time, .int .i64 y.bat.prod, .int .i64 y.bat.seq, .slice A' n' c']] w' fun er w'' => er = .returned (.bool r) ∧ Below w'.heap.size w' w'') := fun w' R h => refSame_any x.ent y.ent A A' n c n' c' r (by rw [← Hr.out]; simp only [H0.out, H1.out, H2.out, decide_true, Bool.true_and]; rfl) w' (RdT.ext HX.out h.1) (RdT.ext HY.out h.1)
        clear z10 z18 z19 z20 z28 z29
        go_region_held3 (fun w' => Below W.heap.size W w' ∧ w'.cell? ⟨w.heap.size, 0, none⟩ = some (.int .i64 x.corr) ∧ w'.cell? ⟨w.heap.size, 8, none⟩ = some (.int .i64 x.most) ∧ w'.cell? ⟨w.heap.size, 9, none⟩ = some (.int .i64 x.time) ∧ w'.cell? ⟨w.heap.size + 1, 0, none⟩ = some (.int .i64 y.corr) ∧ w'.cell? ⟨w.heap.size + 1, 8, none⟩ = some (.int .i64 y.most) ∧ w'.cell? ⟨w.heap.size + 1, 9, none⟩ = some (.int .i64 y.time) ∧ (ldA (.pointer (some ⟨w.heap.size, 0, none⟩))).run Tryz.prog w' = .ok (.agg #[.int .i64 x.corr, .int .i64 x.kind, .string x.topic, .string x.group, .int .i64 x.part, .int .i64 x.parts, .int .i64 x.first, .int .i64 x.off, .int .i64 x.most, .int .i64 x.time, .int .i64 x.bat.time, .int .i64 x.bat.prod, .int .i64 x.bat.seq, .slice A n c]) w' ∧ (ldA (.pointer (some ⟨w.heap.size + 1, 0, none⟩))).run Tryz.prog w' = .ok (.agg #[.int .i64 y.corr, .int .i64 y.kind, .string y.topic, .string y.group, .int .i64 y.part, .int .i64 y.parts, .int .i64 y.first, .int .i64 y.off, .int .i64 y.most, .int .i64 y.time, .int .i64 y.bat.time, .int .i64 y.bat.prod, .int .i64 y.bat.seq, .slice A' n' c']) w') (first | exact FS.out _ (below_drew1 (Below.refl _ _)) | exact FS.out _ (KC.out _ _ _ (by assumption) (by first | exact hb5 | exact hb4 | exact hb3))) (first | (go_at_call 31; with_reducible refine (HE1.out _).mono ?_; rintro er w3 ⟨rfl, hb3⟩) | (go_at_call 31; with_reducible refine (HE2.out _).mono ?_; rintro er w4 ⟨rfl, hb4⟩) | (go_at_call 19; with_reducible refine (HS.out _ _ (by assumption)).mono ?_; rintro er w5 ⟨rfl, hb5⟩) | fail)
        all_goals
          go_wp2_with fail
          go_ret
          exact ⟨rfl, HB.out.trans (below_le HB.out.size (‹Below W.heap.size W _ ∧ _›).1)⟩
      · have q2 : (x.time == y.time) = false := by simp [h]
        have H2 := Lib.hid h
        clear h
        go_quiet (fail)
        go_wp2_with fail
        go_ret
        exact ⟨ret_bool (by rw [← Hr.out]; simp [H0.out, H1.out, H2.out]), below_drawn HB.out _⟩
    · have q1 : (x.most == y.most) = false := by simp [h]
      have H1 := Lib.hid h
      clear h
      go_quiet (fail)
      go_wp2_with fail
      go_ret
      exact ⟨ret_bool (by rw [← Hr.out]; simp [H0.out, H1.out]), below_drawn HB.out _⟩
  · have q0 : (x.corr == y.corr) = false := by simp [h]
    have H0 := Lib.hid h
    clear h
    go_quiet (fail)
    go_wp2_with fail
    go_ret
    exact ⟨ret_bool (by rw [← Hr.out]; simp [H0.out]), below_drawn HB.out _⟩

/-- what the document's RightAsk asks of an ask that reads is what the program asks -/
theorem made_same {a : Ask} (hk : readK a.kind = true) : (decide ((madeA a.kind (valsA a)).corr = 0) && (decide ((madeA a.kind (valsA a)).most = a.most) && (decide ((madeA a.kind (valsA a)).time = a.time) && (sameR (madeA a.kind (valsA a)).ent a.ent && sameB (madeA a.kind (valsA a)).bat a.bat)))) = (bareA a && sameA (madeA a.kind (valsA a)) a) := by
  have h0 : (madeA a.kind (valsA a)).corr = 0 ∧ (madeA a.kind (valsA a)).kind = a.kind ∧ (madeA a.kind (valsA a)).parts = 0 ∧ (madeA a.kind (valsA a)).first = 0 ∧ (madeA a.kind (valsA a)).bat = noB := by
    rcases read_cases hk with k | k | k | k <;> (rw [k]; exact ⟨rfl, rfl, rfl, rfl, rfl⟩)
  generalize madeA a.kind (valsA a) = x at h0
  obtain ⟨c, k, t, g, p, ps, f, o, m, ti, b⟩ := x
  obtain ⟨ac, ak, at', ag, ap, aps, af, ao, am, ati, ⟨b1, b2, b3, bl⟩⟩ := a
  obtain ⟨rfl, rfl, rfl, rfl, rfl⟩ := h0
  rw [Bool.eq_iff_iff, Bool.and_eq_true, Bool.and_eq_true, Bool.and_eq_true, Bool.and_eq_true, Bool.and_eq_true, decide_eq_true_iff, decide_eq_true_iff, decide_eq_true_iff]
  constructor
  · rintro ⟨_, h1, h2, h3, h4⟩
    have h5 := same_iff.1 ⟨h3, h4⟩
    simp only [Ask.ent] at h5
    injection h5 with e1 e2 e3 e4 e5 e6 e7 e8
    injection e8 with f1 f2 f3 f4
    change m = am at h1
    change ti = ati at h2
    subst e2 e3 e4 e5 e6 e7 f1 f2 f3 f4 h1 h2
    exact ⟨rfl, by simp [sameA]⟩
  · rintro ⟨h1, h2⟩
    simp only [bareA, Bool.and_eq_true, decide_eq_true_eq] at h1
    simp only [sameA, Bool.and_eq_true, decide_eq_true_eq] at h2
    obtain ⟨⟨⟨⟨⟨rfl, rfl⟩, rfl⟩, rfl⟩, rfl⟩, rfl⟩ := h1
    obtain ⟨⟨⟨⟨⟨rfl, rfl⟩, rfl⟩, rfl⟩, rfl⟩, rfl⟩ := h2
    exact ⟨rfl, rfl, rfl, same_iff.2 rfl⟩
theorem reads_is {a : Ask} (hk : readK a.kind = true) : readsA a = (okAll (fldsA a.kind) (valsA a) && ((bareA a && sameA (madeA a.kind (valsA a)) a) && ((decide (a.kind = 6) || nameOk a.topic) && (decide (a.kind ≠ 9) || nameOk a.group)))) := by
  unfold readsA
  rw [hk, Bool.true_and, Bool.and_assoc]
set_option maxRecDepth 100000 in
set_option maxHeartbeats 4000000 in
theorem refRightA_any (a : Ask) (A : Option Addr) (n c : Nat) (w : World) (hr : RdT w A n c a.bat.vals) (r : Bool) (hre : rightA a = r) :
    Calls Tryz.prog 27 #[.agg #[.int .i64 a.corr, .int .i64 a.kind, .string a.topic, .string a.group, .int .i64 a.part, .int .i64 a.parts, .int .i64 a.first, .int .i64 a.off, .int .i64 a.most, .int .i64 a.time, .int .i64 a.bat.time, .int .i64 a.bat.prod, .int .i64 a.bat.seq, .slice A n c]] w fun er w' => er = .returned (.bool r) ∧ Below w.heap.size w w' := by
  have hbk := Bk.made w 47 #[.int .i64 a.corr, .int .i64 a.kind, .string a.topic, .string a.group, .int .i64 a.part, .int .i64 a.parts, .int .i64 a.first, .int .i64 a.off, .int .i64 a.most, .int .i64 a.time, .int .i64 a.bat.time, .int .i64 a.bat.prod, .int .i64 a.bat.seq, .slice A n c]
  have hbn := below_new w (.cells #[.int .i64 a.corr, .int .i64 a.kind, .string a.topic, .string a.group, .int .i64 a.part, .int .i64 a.parts, .int .i64 a.first, .int .i64 a.off, .int .i64 a.most, .int .i64 a.time, .int .i64 a.bat.time, .int .i64 a.bat.prod, .int .i64 a.bat.seq, .slice A n c] 47)
  have HBK := Lib.hid hbk
  have HBn := Lib.hid hbn
  have Hr := Lib.hid (hr.ext hbn)
  have Hre := Lib.hid hre
  have HFq := Lib.hid (refAFlds_any a.kind (w.alloc (.cells #[.int .i64 a.corr, .int .i64 a.kind, .string a.topic, .string a.group, .int .i64 a.part, .int .i64 a.parts, .int .i64 a.first, .int .i64 a.off, .int .i64 a.most, .int .i64 a.time, .int .i64 a.bat.time, .int .i64 a.bat.prod, .int .i64 a.bat.seq, .slice A n c] 47)))
  clear hbk hbn hr hre
  by_cases h0 : a.corr < 0
  · have q0 : decide (a.corr < 0) = true := decide_eq_true h0
    go_enter Tryz.func27, Tryz.ntmps27
    go_wp2_with fail
    go_ret
    refine ⟨ret_bool ?_, HBn.out⟩
    rw [← Hre.out]
    unfold rightA
    rw [decide_eq_false (by omega), Bool.false_and]
  · have q0 : decide (a.corr < 0) = false := decide_eq_false h0
    by_cases h1 : 4294967295 < a.corr
    · have q1 : decide (4294967295 < a.corr) = true := decide_eq_true h1
      go_enter Tryz.func27, Tryz.ntmps27
      go_wp2_with fail
      go_ret
      refine ⟨ret_bool ?_, HBn.out⟩
      rw [← Hre.out]
      unfold rightA
      rw [decide_eq_false (show ¬ a.corr ≤ 4294967295 by omega), Bool.false_and, Bool.and_false]
    · have q1 : decide (4294967295 < a.corr) = false := decide_eq_false h1
      have hri : rightA a = (if writK a.kind then decide (a.most = 0) && (decide (a.time = 0) && rightE a.ent) else readsA a) := by
        unfold rightA
        rw [decide_eq_true (show 0 ≤ a.corr by omega), decide_eq_true (show a.corr ≤ 4294967295 by omega)]
        rfl
      rw [Hre.out] at hri
      have Hri := Lib.hid hri
      clear hri h0 h1
      go_enter Tryz.func27, Tryz.ntmps27
      go_wp2_with fail
      with_reducible refine HFq.out.mono ?_
      rintro er w1 ⟨A1, n1, c1, rfl, hrf, hn1, hA1, hb1⟩
      have hq := fun (w : World) => eq_nil_slice w A1 n1 c1 0 0
      have HK1 := Lib.hid (HBK.out.ext hb1)
      have HB1 := Lib.hid (HBn.out.trans (below_le HBn.out.size hb1))
      have HR1 := Lib.hid (Hr.out.ext hb1)
      clear hrf hn1 hb1 HFq HBK HBn Hr
      by_cases hkd : 1 ≤ a.kind ∧ a.kind ≤ 9
      case' neg =>
        have hnn : A1.isNone = true := by
          rw [decide_eq_false hkd] at hA1
          cases A1 with
          | none => rfl
          | some a => cases hA1
        rw [hnn] at hq
        have HF : Hid (r = false) := by
          show r = false
          rw [← Hre.out]
          exact Bool.eq_false_iff.2 (fun h => hkd (right_kindA h))
        clear hkd hA1 hnn
        go_wp2_with fail
        go_ret
        exact ⟨ret_bool HF.out.symm, HB1.out⟩
      case' pos =>
        have hnn : A1.isNone = false := by
          rw [decide_eq_true hkd] at hA1
          cases A1 with
          | none => cases hA1
          | some a => rfl
        rw [hnn] at hq
        have Hkd := Lib.hid hkd
        have l1 := ldA_bk HK1.out
        have hst := stA_newAt w1 w1.heap.size rfl a.corr a.kind a.topic a.group a.part a.parts a.first a.off a.most a.time a.bat.time a.bat.prod a.bat.seq A n c #[.int .i64 0, .int .i64 0, .string ⟨#[]⟩, .string ⟨#[]⟩, .int .i64 0, .int .i64 0, .int .i64 0, .int .i64 0, .int .i64 0, .int .i64 0, .int .i64 0, .int .i64 0, .int .i64 0, .slice none 0 0] rfl
        have hbW := below_new w1 (.cells #[.int .i64 0, .int .i64 a.kind, .string a.topic, .string a.group, .int .i64 a.part, .int .i64 a.parts, .int .i64 a.first, .int .i64 a.off, .int .i64 a.most, .int .i64 a.time, .int .i64 a.bat.time, .int .i64 a.bat.prod, .int .i64 a.bat.seq, .slice A n c] 47)
        have HK2 := Lib.hid (HK1.out.ext hbW)
        have HK3 : Hid (Bk (w1.alloc (.cells #[.int .i64 0, .int .i64 a.kind, .string a.topic, .string a.group, .int .i64 a.part, .int .i64 a.parts, .int .i64 a.first, .int .i64 a.off, .int .i64 a.most, .int .i64 a.time, .int .i64 a.bat.time, .int .i64 a.bat.prod, .int .i64 a.bat.seq, .slice A n c] 47)) w1.heap.size 47 #[.int .i64 0, .int .i64 a.kind, .string a.topic, .string a.group, .int .i64 a.part, .int .i64 a.parts, .int .i64 a.first, .int .i64 a.off, .int .i64 a.most, .int .i64 a.time, .int .i64 a.bat.time, .int .i64 a.bat.prod, .int .i64 a.bat.seq, .slice A n c]) := Bk.made w1 47 #[.int .i64 0, .int .i64 a.kind, .string a.topic, .string a.group, .int .i64 a.part, .int .i64 a.parts, .int .i64 a.first, .int .i64 a.off, .int .i64 a.most, .int .i64 a.time, .int .i64 a.bat.time, .int .i64 a.bat.prod, .int .i64 a.bat.seq, .slice A n c]
        have HB3 := Lib.hid (HB1.out.trans (below_le HB1.out.size hbW))
        have HR3 := Lib.hid (HR1.out.ext hbW)
        clear hkd hA1 hnn hbW HK1 HB1 HR1
        have HW := Lib.hid (refWrites_any a.kind (w1.alloc (.cells #[.int .i64 0, .int .i64 a.kind, .string a.topic, .string a.group, .int .i64 a.part, .int .i64 a.parts, .int .i64 a.first, .int .i64 a.off, .int .i64 a.most, .int .i64 a.time, .int .i64 a.bat.time, .int .i64 a.bat.prod, .int .i64 a.bat.seq, .slice A n c] 47)))
        have cw : (w1.alloc (.cells #[.int .i64 0, .int .i64 a.kind, .string a.topic, .string a.group, .int .i64 a.part, .int .i64 a.parts, .int .i64 a.first, .int .i64 a.off, .int .i64 a.most, .int .i64 a.time, .int .i64 a.bat.time, .int .i64 a.bat.prod, .int .i64 a.bat.seq, .slice A n c] 47)).cell? ⟨w.heap.size, 1, none⟩ = some (.int .i64 a.kind) := HK2.out.cell 1
        go_wp2_with fail
        clear hq l1 hst cw
        generalize w1.alloc (.cells #[.int .i64 0, .int .i64 a.kind, .string a.topic, .string a.group, .int .i64 a.part, .int .i64 a.parts, .int .i64 a.first, .int .i64 a.off, .int .i64 a.most, .int .i64 a.time, .int .i64 a.bat.time, .int .i64 a.bat.prod, .int .i64 a.bat.seq, .slice A n c] 47) = W at HK2 HK3 HB3 HR3 HW ⊢
        generalize w1.heap.size = gb at HK3 ⊢
        with_reducible refine HW.out.mono ?_
        rintro er w2 ⟨rfl, rfl⟩
        clear HW
        cases hw : writK a.kind
        · have hri := Hri.out
          have hrk : readK a.kind = true := read_iff.2 (by
            have h2 := Hkd.out
            have h1 : ¬ (1 ≤ a.kind ∧ a.kind ≤ 5) := fun h => by rw [writ_iff.2 h] at hw; cases hw
            omega)
          rw [hw, if_neg (by decide)] at hri
          clear hw
          have HRk := Lib.hid hrk
          rw [reads_is hrk] at hri
          have Hri := Lib.hid hri
          have hq : fldsQ a.kind = fldsA a.kind := fldsQ_r (read_writ hrk)
          have Hq := Lib.hid hq
          clear hri hq hrk
          go_upto_region 8 with fail
          go_cut [6] from 41 to 78 (fun s6 wx => ∃ z : Int, s6 = .int .i64 z ∧ ((okAll (fldsA a.kind) (valsA a) = true ∧ z = 0) ∨ (okAll (fldsA a.kind) (valsA a) = false ∧ z ≠ 0)) ∧ Below W.heap.size W wx)
          case first =>
            have FS : Hid (∀ w', Below W.heap.size W w' → (Below W.heap.size W w' ∧ w'.cell? ⟨w.heap.size, 1, none⟩ = some (.int .i64 a.kind) ∧ (ldA (.pointer (some ⟨w.heap.size, 0, none⟩))).run Tryz.prog w' = .ok (.agg #[.int .i64 a.corr, .int .i64 a.kind, .string a.topic, .string a.group, .int .i64 a.part, .int .i64 a.parts, .int .i64 a.first, .int .i64 a.off, .int .i64 a.most, .int .i64 a.time, .int .i64 a.bat.time, .int .i64 a.bat.prod, .int .i64 a.bat.seq, .slice A n c]) w')) := fun w' hb => ⟨hb, (HK2.out.ext hb).cell 1, ldA_bk (HK2.out.ext hb)⟩
            have KC : Hid (∀ (w' w'' : World) (R : Prop), Below W.heap.size W w' ∧ R → Below w'.heap.size w' w'' → Below W.heap.size W w'') := fun w' w'' R h hb => h.1.trans (below_le h.1.size hb)
            have HFf : Hid (∀ w', Calls Tryz.prog 58 #[.int .i64 a.kind] w' fun e w'' => ∃ A n c, e = .returned (.slice A n c) ∧ RdF w'' A n c (fldsQ a.kind) ∧ n ≤ 100 ∧ A.isSome = decide (1 ≤ a.kind ∧ a.kind ≤ 9) ∧ Below w'.heap.size w' w'') := fun w' => refAFlds_any a.kind w'
            have HVv : Hid (∀ w', Calls Tryz.prog 59 #[.agg #[.int .i64 a.corr, .int .i64 a.kind, .string a.topic, .string a.group, .int .i64 a.part, .int .i64 a.parts, .int .i64 a.first, .int .i64 a.off, .int .i64 a.most, .int .i64 a.time, .int .i64 a.bat.time, .int .i64 a.bat.prod, .int .i64 a.bat.seq, .slice A n c]] w' fun e w'' => ∃ A' n' c' ms, e = .returned (.slice A' n' c') ∧ RdV w'' A' n' c' ms ∧ vsOf ms = valsA a ∧ Below w'.heap.size w' w'') := fun w' => refAVals a A n c w'
            have HPp : Hid (∀ (A3 : Option Addr) (n3 c3 : Nat) (A4 : Option Addr) (n4 c4 : Nat) (ms4 : List MVal) (w3 w' : World), RdF w3 A3 n3 c3 (fldsQ a.kind) → n3 ≤ 100 → Below w3.heap.size w3 w' → RdV w' A4 n4 c4 ms4 → vsOf ms4 = valsA a → Calls Tryz.prog 45 #[.slice A3 n3 c3, .slice A4 n4 c4] w' fun er w'' => ∃ (v : Value) (z i : Int), er = .returned (.tuple #[v, .int .i64 z, .int .i64 i]) ∧ ((okAll (fldsA a.kind) (valsA a) = true ∧ z = 0) ∨ (okAll (fldsA a.kind) (valsA a) = false ∧ z ≠ 0)) ∧ Below w'.heap.size w' w'') := fun A3 n3 c3 A4 n4 c4 ms4 w3 w' hf hn hb hv hvs => by
              rw [Hq.out] at hf
              refine (refPut_any A3 n3 c3 (fldsA a.kind) A4 n4 c4 ms4 w' (fldsA_some _) (hf.ext hb) hv hn).mono ?_
              rintro er w5 ⟨Ap, M5, cp, k5, i5, rfl, hp5, hb5⟩
              rw [hvs] at hp5
              refine ⟨_, k5, i5, rfl, ?_, hb5⟩
              rcases hp5 with ⟨hok, rfl, _⟩ | ⟨hno, _, hk5⟩
              · exact .inl ⟨hok, rfl⟩
              · exact .inr ⟨by simpa using hno, by omega⟩
            go_region_held3 (fun w' => Below W.heap.size W w' ∧ w'.cell? ⟨w.heap.size, 1, none⟩ = some (.int .i64 a.kind) ∧ (ldA (.pointer (some ⟨w.heap.size, 0, none⟩))).run Tryz.prog w' = .ok (.agg #[.int .i64 a.corr, .int .i64 a.kind, .string a.topic, .string a.group, .int .i64 a.part, .int .i64 a.parts, .int .i64 a.first, .int .i64 a.off, .int .i64 a.most, .int .i64 a.time, .int .i64 a.bat.time, .int .i64 a.bat.prod, .int .i64 a.bat.seq, .slice A n c]) w') (first | exact FS.out _ (below_drew1 (Below.refl _ _)) | exact FS.out _ (KC.out _ _ _ (by assumption) (by first | exact hb5 | exact hb4 | exact hb3))) (first | (go_at_call 58; go_loud (with_reducible refine (HFf.out _).mono ?_); go_loud (rintro er w3 ⟨A3, n3, c3, rfl, hrf3, hn3, _, hb3⟩); go_loud (have Hrf3 := Lib.hid hrf3); go_loud (have Hn3 := Lib.hid hn3); go_loud (clear hrf3 hn3)) | (go_at_call 59; go_loud (with_reducible refine (HVv.out _).mono ?_); go_loud (rintro er w4 ⟨A4, n4, c4, ms4, rfl, hrv4, hvs4, hb4⟩); go_loud (have Hrv4 := Lib.hid hrv4); go_loud (have Hvs4 := Lib.hid hvs4); go_loud (clear hrv4 hvs4)) | (go_at_call 45; go_loud (with_reducible refine (HPp.out _ _ _ _ _ _ _ _ _ Hrf3.out Hn3.out (by first | exact hb4 | exact Below.refl _ _) Hrv4.out Hvs4.out).mono ?_); go_loud (rintro er w5 ⟨v5, z5, i5, rfl, hz5, hb5⟩); go_loud (have Hz5 := Lib.hid hz5); go_loud (clear hz5)) | fail)
            all_goals
              go_wp2_with fail
              go_meet
              exact ⟨z5, rfl, Hz5.out, (‹Below W.heap.size W _ ∧ _›).1⟩
          case rest =>
            obtain ⟨z, rfl, hor, hbx⟩ := hcut
            have HK8 := Lib.hid (HK2.out.ext hbx)
            have HKb := Lib.hid (HK3.out.ext hbx)
            have HB7 := Lib.hid (HB3.out.trans (below_le HB3.out.size hbx))
            have HR7 := Lib.hid (HR3.out.ext hbx)
            clear hbx HK2 HK3 HB3 HR3
            generalize wc = W2 at HK8 HKb HB7 HR7 ⊢
            rcases hor with ⟨hok, rfl⟩ | ⟨hno, hz⟩
            · have Htl := Lib.hid (topicA_le HRk.out hok)
              have Hok := Lib.hid hok
              have hri := Hri.out
              rw [hok, Bool.true_and] at hri
              obtain ⟨sm, hsm⟩ : ∃ sm, (bareA a && sameA (madeA a.kind (valsA a)) a) = sm := ⟨_, rfl⟩
              rw [hsm] at hri
              have Hsm := Lib.hid hsm
              have Hri := Lib.hid hri
              clear hri hsm hok
              go_upto_region 11 with fail
              go_cut [60] from 61 to 78 (fun s60 wx => s60 = .bool (!sm) ∧ Below W2.heap.size W2 wx)
              case first =>
                have FS : Hid (∀ w', Below W2.heap.size W2 w' → (Below W2.heap.size W2 w' ∧ w'.cell? ⟨w.heap.size, 1, none⟩ = some (.int .i64 a.kind) ∧ (ldA (.pointer (some ⟨w.heap.size, 0, none⟩))).run Tryz.prog w' = .ok (.agg #[.int .i64 a.corr, .int .i64 a.kind, .string a.topic, .string a.group, .int .i64 a.part, .int .i64 a.parts, .int .i64 a.first, .int .i64 a.off, .int .i64 a.most, .int .i64 a.time, .int .i64 a.bat.time, .int .i64 a.bat.prod, .int .i64 a.bat.seq, .slice A n c]) w' ∧ (ldA (.pointer (some ⟨gb, 0, none⟩))).run Tryz.prog w' = .ok (.agg #[.int .i64 0, .int .i64 a.kind, .string a.topic, .string a.group, .int .i64 a.part, .int .i64 a.parts, .int .i64 a.first, .int .i64 a.off, .int .i64 a.most, .int .i64 a.time, .int .i64 a.bat.time, .int .i64 a.bat.prod, .int .i64 a.bat.seq, .slice A n c]) w')) := fun w' hb => ⟨hb, (HK8.out.ext hb).cell 1, ldA_bk (HK8.out.ext hb), ldA_bk (HKb.out.ext hb)⟩
                have KC : Hid (∀ (w' w'' : World) (R : Prop), Below W2.heap.size W2 w' ∧ R → Below w'.heap.size w' w'' → Below W2.heap.size W2 w'') := fun w' w'' R h hb => h.1.trans (below_le h.1.size hb)
                have HVv : Hid (∀ w', Calls Tryz.prog 59 #[.agg #[.int .i64 a.corr, .int .i64 a.kind, .string a.topic, .string a.group, .int .i64 a.part, .int .i64 a.parts, .int .i64 a.first, .int .i64 a.off, .int .i64 a.most, .int .i64 a.time, .int .i64 a.bat.time, .int .i64 a.bat.prod, .int .i64 a.bat.seq, .slice A n c]] w' fun e w'' => ∃ A' n' c' ms, e = .returned (.slice A' n' c') ∧ RdV w'' A' n' c' ms ∧ vsOf ms = valsA a ∧ Below w'.heap.size w' w'') := fun w' => refAVals a A n c w'
                have HMm : Hid (∀ (A4 : Option Addr) (n4 c4 : Nat) (ms4 : List MVal) (w4 w' : World), RdV w4 A4 n4 c4 ms4 → vsOf ms4 = valsA a → Below w4.heap.size w4 w' → Calls Tryz.prog 60 #[.int .i64 a.kind, .slice A4 n4 c4] w' fun e w'' => ∃ x : Ask, e = .returned (.agg #[.int .i64 x.corr, .int .i64 x.kind, .string x.topic, .string x.group, .int .i64 x.part, .int .i64 x.parts, .int .i64 x.first, .int .i64 x.off, .int .i64 x.most, .int .i64 x.time, .int .i64 x.bat.time, .int .i64 x.bat.prod, .int .i64 x.bat.seq, .slice none 0 0]) ∧ x = madeA a.kind (vsOf ms4) ∧ x.bat.vals = [] ∧ Below w'.heap.size w' w'') := fun A4 n4 c4 ms4 w4 w' h hv hb => refAmade_any a.kind HRk.out A4 n4 c4 ms4 w' (h.ext hb) (by rw [hv]; exact Hok.out)
                have HSs : Hid (∀ (x : Ask) (w' : World) (R : Prop), Below W2.heap.size W2 w' ∧ R → x = madeA a.kind (valsA a) → x.bat.vals = [] → Calls Tryz.prog 34 #[.agg #[.int .i64 x.corr, .int .i64 x.kind, .string x.topic, .string x.group, .int .i64 x.part, .int .i64 x.parts, .int .i64 x.first, .int .i64 x.off, .int .i64 x.most, .int .i64 x.time, .int .i64 x.bat.time, .int .i64 x.bat.prod, .int .i64 x.bat.seq, .slice none 0 0], .agg #[.int .i64 0, .int .i64 a.kind, .string a.topic, .string a.group, .int .i64 a.part, .int .i64 a.parts, .int .i64 a.first, .int .i64 a.off, .int .i64 a.most, .int .i64 a.time, .int .i64 a.bat.time, .int .i64 a.bat.prod, .int .i64 a.bat.seq, .slice A n c]] w' fun er w'' => er = .returned (.bool sm) ∧ Below w'.heap.size w' w'') := fun x w' R h hx hxv => refSameAsk_any x (a.num 0) none A 0 0 n c sm (by rw [hx]; exact (made_same HRk.out).trans Hsm.out) w' (by rw [hxv]; exact RdT.nil _) (RdT.ext HR7.out h.1)
                go_region_held3 (fun w' => Below W2.heap.size W2 w' ∧ w'.cell? ⟨w.heap.size, 1, none⟩ = some (.int .i64 a.kind) ∧ (ldA (.pointer (some ⟨w.heap.size, 0, none⟩))).run Tryz.prog w' = .ok (.agg #[.int .i64 a.corr, .int .i64 a.kind, .string a.topic, .string a.group, .int .i64 a.part, .int .i64 a.parts, .int .i64 a.first, .int .i64 a.off, .int .i64 a.most, .int .i64 a.time, .int .i64 a.bat.time, .int .i64 a.bat.prod, .int .i64 a.bat.seq, .slice A n c]) w' ∧ (ldA (.pointer (some ⟨gb, 0, none⟩))).run Tryz.prog w' = .ok (.agg #[.int .i64 0, .int .i64 a.kind, .string a.topic, .string a.group, .int .i64 a.part, .int .i64 a.parts, .int .i64 a.first, .int .i64 a.off, .int .i64 a.most, .int .i64 a.time, .int .i64 a.bat.time, .int .i64 a.bat.prod, .int .i64 a.bat.seq, .slice A n c]) w') (first | exact FS.out _ (below_drew1 (Below.refl _ _)) | exact FS.out _ (KC.out _ _ _ (by assumption) (by first | exact hb6 | exact hb5 | exact hb4))) (first | (go_at_call 59; go_loud (with_reducible refine (HVv.out _).mono ?_); go_loud (rintro er w4 ⟨A4, n4, c4, ms4, rfl, hrv4, hvs4, hb4⟩); go_loud (have Hrv4 := Lib.hid hrv4); go_loud (have Hvs4 := Lib.hid hvs4); go_loud (clear hrv4 hvs4)) | (go_at_call 60; go_loud (with_reducible refine (HMm.out _ _ _ _ _ _ Hrv4.out Hvs4.out (Below.refl _ _)).mono ?_); go_loud (rintro er w5 ⟨x5, rfl, hx5, hv5, hb5⟩); go_loud (rw [Hvs4.out] at hx5); go_loud (have Hx5 := Lib.hid hx5); go_loud (have Hv5 := Lib.hid hv5); go_loud (clear hx5 hv5)) | (go_at_call 34; go_loud (with_reducible refine (HSs.out _ _ _ (by assumption) Hx5.out Hv5.out).mono ?_); go_loud (rintro er w6 ⟨rfl, hb6⟩)) | fail)
                all_goals
                  go_wp2_with fail
                  go_meet
                  exact ⟨rfl, (‹Below W2.heap.size W2 _ ∧ _›).1⟩
              case rest =>
                obtain ⟨rfl, hbx⟩ := hcut
                have HB8 := Lib.hid (HB7.out.trans (below_le HB7.out.size hbx))
                have HK9 := Lib.hid (HK8.out.ext hbx)
                have d1 : wc.cell? ⟨w.heap.size, 1, none⟩ = some (.int .i64 a.kind) := HK9.out.cell 1
                have d2 : wc.cell? ⟨w.heap.size, 2, none⟩ = some (.string a.topic) := HK9.out.cell 2
                have d3 : wc.cell? ⟨w.heap.size, 3, none⟩ = some (.string a.group) := HK9.out.cell 3
                clear hbx HB7 HK8 HKb HR7
                cases sm
                · have HF : Hid (r = false) := by show r = false; rw [Hri.out, Bool.false_and]
                  go_wp2_with fail
                  go_ret
                  exact ⟨ret_bool HF.out.symm, HB8.out⟩
                · have hri : r = ((decide (a.kind = 6) || nameOk a.topic) && (decide (a.kind ≠ 9) || nameOk a.group)) := by rw [Hri.out, Bool.true_and]
                  have Hri := Lib.hid hri
                  clear hri
                  by_cases h6 : a.kind = 6
                  · have q6 : (a.kind == 6) = true := by simp [h6]
                    have HF : Hid (r = true) := by show r = true; rw [Hri.out]; simp [h6]
                    have h9 : (a.kind ≠ 9) := by omega
                    clear h6 h9
                    go_wp2_with fail
                    go_ret
                    exact ⟨ret_bool HF.out.symm, HB8.out⟩
                  · have q6 : (a.kind == 6) = false := by simp [h6]
                    have hts : a.topic.size ≤ 9223372036854775807 := by have := Htl.out.1 h6; omega
                    have HN := Lib.hid (refName_any a.topic hts)
                    have hr3 : r = (nameOk a.topic && (decide (a.kind ≠ 9) || nameOk a.group)) := by rw [Hri.out, decide_eq_false h6]; rfl
                    have Hr3 := Lib.hid hr3
                    clear hr3 hts h6
                    cases hn1 : nameOk a.topic
                    · have HF : Hid (r = false) := by show r = false; rw [Hr3.out, hn1]; rfl
                      rw [hn1] at HN
                      clear hn1
                      go_wp2_with fail
                      with_reducible refine (HN.out _).mono ?_
                      rintro er w9 ⟨rfl, rfl⟩
                      go_wp2_with fail
                      go_ret
                      exact ⟨ret_bool HF.out.symm, HB8.out⟩
                    · rw [hn1] at HN
                      by_cases h9 : a.kind = 9
                      · have q9 : (a.kind != 9) = false := by simp [h9]
                        have hgs : a.group.size ≤ 9223372036854775807 := by have := Htl.out.2 h9; omega
                        have HG := Lib.hid (refName_any a.group hgs)
                        have HF : Hid (nameOk a.group = r) := by show _ = r; rw [Hr3.out, hn1]; simp [h9]
                        rw [HF.out] at HG
                        clear hn1 h9 hgs HF
                        go_wp2_with fail
                        with_reducible refine (HN.out _).mono ?_
                        rintro er w9 ⟨rfl, rfl⟩
                        go_wp2_with fail
                        with_reducible refine (HG.out _).mono ?_
                        rintro er w9 ⟨rfl, rfl⟩
                        go_wp2_with fail
                        go_ret
                        exact ⟨rfl, HB8.out⟩
                      · have q9 : (a.kind != 9) = true := by simp [h9]
                        have HF : Hid (r = true) := by show r = true; rw [Hr3.out, hn1]; simp [h9]
                        clear hn1 h9
                        go_wp2_with fail
                        with_reducible refine (HN.out _).mono ?_
                        rintro er w9 ⟨rfl, rfl⟩
                        go_wp2_with fail
                        go_ret
                        exact ⟨ret_bool HF.out.symm, HB8.out⟩
            · have hz' : (z != 0) = true := by rw [bne_iff_ne]; exact hz
              have HF : Hid (r = false) := by show r = false; rw [Hri.out, hno, Bool.false_and]
              clear hz hno
              go_wp2_with fail
              go_ret
              exact ⟨ret_bool HF.out.symm, HB7.out⟩
        · have hri := Hri.out
          rw [hw, if_pos rfl] at hri
          have Hri := Lib.hid hri
          clear hri hw
          have l2 := ldA_bk HK2.out
          have HE := Lib.hid (refEntOf_any a A n c W)
          go_wp2_with fail
          with_reducible refine HE.out.mono ?_
          rintro er w2 ⟨rfl, hb2⟩
          have hst2 := stE_newAt w2 w2.heap.size rfl a.kind a.topic a.group a.part a.parts a.first a.off a.bat.time a.bat.prod a.bat.seq A n c #[.int .i64 0, .string ⟨#[]⟩, .string ⟨#[]⟩, .int .i64 0, .int .i64 0, .int .i64 0, .int .i64 0, .int .i64 0, .int .i64 0, .int .i64 0, .slice none 0 0] rfl
          have hbn3 := below_new w2 (.cells #[.int .i64 a.kind, .string a.topic, .string a.group, .int .i64 a.part, .int .i64 a.parts, .int .i64 a.first, .int .i64 a.off, .int .i64 a.bat.time, .int .i64 a.bat.prod, .int .i64 a.bat.seq, .slice A n c] 26)
          have hk4 := Bk.made w2 26 #[.int .i64 a.kind, .string a.topic, .string a.group, .int .i64 a.part, .int .i64 a.parts, .int .i64 a.first, .int .i64 a.off, .int .i64 a.bat.time, .int .i64 a.bat.prod, .int .i64 a.bat.seq, .slice A n c]
          have le4 := ldE_bk hk4
          have HK4 := Lib.hid ((HK2.out.ext hb2).ext hbn3)
          have l8 := (HK4.out.cell 8).trans rfl
          have l9 := (HK4.out.cell 9).trans rfl
          have HR4 := Lib.hid ((HR3.out.ext hb2).ext hbn3)
          have HB4 := Lib.hid ((HB3.out.trans (below_le HB3.out.size hb2)).trans (below_le (Nat.le_trans HB3.out.size hb2.size) hbn3))
          clear hb2 hbn3 hk4 HB3 HR3 HK2 HK3 HE l2
          have HB3 := HB4
          have HR3 : Hid (Calls Tryz.prog 12 #[.agg #[.int .i64 a.kind, .string a.topic, .string a.group, .int .i64 a.part, .int .i64 a.parts, .int .i64 a.first, .int .i64 a.off, .int .i64 a.bat.time, .int .i64 a.bat.prod, .int .i64 a.bat.seq, .slice A n c]] (w2.alloc (.cells #[.int .i64 a.kind, .string a.topic, .string a.group, .int .i64 a.part, .int .i64 a.parts, .int .i64 a.first, .int .i64 a.off, .int .i64 a.bat.time, .int .i64 a.bat.prod, .int .i64 a.bat.seq, .slice A n c] 26)) fun er w' => er = .returned (.bool (rightE a.ent)) ∧ Below (w2.alloc (.cells #[.int .i64 a.kind, .string a.topic, .string a.group, .int .i64 a.part, .int .i64 a.parts, .int .i64 a.first, .int .i64 a.off, .int .i64 a.bat.time, .int .i64 a.bat.prod, .int .i64 a.bat.seq, .slice A n c] 26)).heap.size (w2.alloc (.cells #[.int .i64 a.kind, .string a.topic, .string a.group, .int .i64 a.part, .int .i64 a.parts, .int .i64 a.first, .int .i64 a.off, .int .i64 a.bat.time, .int .i64 a.bat.prod, .int .i64 a.bat.seq, .slice A n c] 26)) w') := refRight_any a.ent A n c _ HR4.out _ rfl
          by_cases hm : a.most = 0
          · have q2 : (a.most == 0) = true := by simp [hm]
            have Hm := Lib.hid hm
            clear hm
            by_cases ht : a.time = 0
            · have q3 : (a.time == 0) = true := by simp [ht]
              have Ht := Lib.hid ht
              clear ht
              have hrr : rightE a.ent = r := by
                have h := Hri.out
                rw [decide_eq_true Hm.out, decide_eq_true Ht.out] at h
                exact h.symm
              have Hrr := Lib.hid hrr
              clear hrr
              go_wp2_with fail
              with_reducible refine HR3.out.mono ?_
              rintro er w4 ⟨rfl, hb4⟩
              have HB4 := Lib.hid (HB3.out.trans (below_le HB3.out.size hb4))
              clear hb4
              go_wp2_with fail
              go_ret
              exact ⟨ret_bool Hrr.out, HB4.out⟩
            · have q3 : (a.time == 0) = false := by simp [ht]
              have Ht := Lib.hid ht
              clear ht
              go_wp2_with fail
              go_ret
              refine ⟨ret_bool ?_, HB3.out⟩
              rw [Hri.out, decide_eq_false Ht.out, Bool.false_and, Bool.and_false]
          · have q2 : (a.most == 0) = false := by simp [hm]
            have Hm := Lib.hid hm
            clear hm
            go_wp2_with fail
            go_ret
            refine ⟨ret_bool ?_, HB3.out⟩
            rw [Hri.out, decide_eq_false Hm.out, Bool.false_and]
end Go.Proofs.YtpfdbbcfcimmfaaGreatDoor
