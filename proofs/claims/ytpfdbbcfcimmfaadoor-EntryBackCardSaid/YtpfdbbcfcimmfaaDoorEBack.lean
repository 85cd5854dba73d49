/-
  EntryBack: the walk.
-/
import Derived.Test.YtpfdbbcfcimmfaaDoorEBackW
import Derived.Test.YtpfdbbcfcimmfaaDoorEKeep
import Derived.Test.YtpfdbbcfcimmfaaDoorEErrK
import Derived.Test.YtpfdbbcfcimmfaaDoorEKinds
import Derived.Deep.CutRange
import Derived.Deep.RegionHeld3
import Derived.Deep.QuietTactic
import Derived.BigQuiet
namespace Go.Proofs.YtpfdbbcfcimmfaaDoor
open Go.RowKit
attribute [local go_sem ↓] ldE_eq stE_eq stE_if2
attribute [local go_sem] w8_nn w8_256 wrap_i64_w8 wrap64_w8 pastA_zero isE_drew isE_alloc stE_if

theorem RdT.al {w : World} {A : Option Addr} {n c : Nat} {l : List ByteArray} (h : RdT w A n c l) (o : Obj) : RdT (w.alloc o) A n c l := RdT.ext h (below_new w o)
/-- block g is old, all else stays -/
def BelG (g : Nat) (a b : World) : Prop := Below g a b ∧ g ≤ b.heap.size
theorem BelG.next {g : Nat} {a b c : World} (h : BelG g a b) (hb : Below b.heap.size b c) : BelG g a c := ⟨h.1.trans (below_le h.2 hb), Nat.le_trans h.2 hb.size⟩
/-- what stays of both entries and their bytes -/
structure BackI (g : Nat) (a : World) (g9 g10 : Nat) (x : Ent) (A1 : Option Addr) (n1 c1 : Nat) (y : Ent) (A2 : Option Addr) (n2 c2 : Nat) (A3 : Option Addr) (M3 c3 : Nat) (A4 : Option Addr) (M4 c4 : Nat) (w : World) : Prop where
  k9 : Bk w g9 29 #[.int .i64 x.kind, .string x.topic, .string x.group, .int .i64 x.part, .int .i64 x.parts, .int .i64 x.first, .int .i64 x.off, .int .i64 x.bat.time, .int .i64 x.bat.prod, .int .i64 x.bat.seq, .slice A1 n1 c1]
  k10 : Bk w g10 29 #[.int .i64 y.kind, .string y.topic, .string y.group, .int .i64 y.part, .int .i64 y.parts, .int .i64 y.first, .int .i64 y.off, .int .i64 y.bat.time, .int .i64 y.bat.prod, .int .i64 y.bat.seq, .slice A2 n2 c2]
  rx : RdT w A1 n1 c1 x.bat.vals
  ry : RdT w A2 n2 c2 y.bat.vals
  p : RdB w A3 M3 c3 (putE x)
  q : RdB w A4 M4 c4 (putE y)
  b : BelG g a w
theorem BackI.ext {g : Nat} {a : World} {g9 g10 : Nat} {x : Ent} {A1 : Option Addr} {n1 c1 : Nat} {y : Ent} {A2 : Option Addr} {n2 c2 : Nat} {A3 : Option Addr} {M3 c3 : Nat} {A4 : Option Addr} {M4 c4 : Nat} {w w' : World}
    (h : BackI g a g9 g10 x A1 n1 c1 y A2 n2 c2 A3 M3 c3 A4 M4 c4 w) (hb : Below w.heap.size w w') : BackI g a g9 g10 x A1 n1 c1 y A2 n2 c2 A3 M3 c3 A4 M4 c4 w' :=
  ⟨h.k9.ext hb, h.k10.ext hb, RdT.ext h.rx hb, RdT.ext h.ry hb, RdB.ext h.p hb, RdB.ext h.q hb, h.b.next hb⟩
theorem right_len {x : Ent} {M : Nat} (h : (putE x).length = M) : rightE x = decide (0 < M) := by
  subst h
  cases hr : rightE x
  · rw [putE_no hr]; rfl
  · rw [putE_eq hr]; simp
theorem put_inj {x y : Ent} (hx : rightE x = true) (hy : rightE y = true) : decide (putE x = putE y) = (sameR x y && sameB x.bat y.bat) := by
  by_cases h : putE x = putE y
  · have h1 := getE_put hx
    rw [h, getE_put hy] at h1
    injection h1 with h2
    rw [decide_eq_true h, (same_iff.2 h2.symm).1, (same_iff.2 h2.symm).2]
    rfl
  · rw [decide_eq_false h]
    cases hs : (sameR x y && sameB x.bat y.bat)
    · rfl
    · rw [Bool.and_eq_true] at hs
      rw [same_iff.1 hs] at h
      exact (h rfl).elim

set_option maxRecDepth 100000 in
set_option maxHeartbeats 8000000 in
theorem entryBack_w (e : Ent) (A : Option Addr) (n c : Nat) (f : Ent) (A' : Option Addr) (n' c' : Nat) (z : Int) (hz : fitI z) (b0 : UInt8) (w : World) (hl : ErrLaid w) (hr : RdT w A n c e.bat.vals) (hr' : RdT w A' n' c' f.bat.vals) :
    Calls Tryd.prog 6 #[.agg #[.int .i64 e.kind, .string e.topic, .string e.group, .int .i64 e.part, .int .i64 e.parts, .int .i64 e.first, .int .i64 e.off, .int .i64 e.bat.time, .int .i64 e.bat.prod, .int .i64 e.bat.seq, .slice A n c], .agg #[.int .i64 f.kind, .string f.topic, .string f.group, .int .i64 f.part, .int .i64 f.parts, .int .i64 f.first, .int .i64 f.off, .int .i64 f.bat.time, .int .i64 f.bat.prod, .int .i64 f.bat.seq, .slice A' n' c'], .int .i64 z, .int .u8 (w8 b0)] w fun er w' => er = .returned (.bool true) ∧ Below w.heap.size w w' := by
  have hbn := below_two w (.cells #[.int .i64 e.kind, .string e.topic, .string e.group, .int .i64 e.part, .int .i64 e.parts, .int .i64 e.first, .int .i64 e.off, .int .i64 e.bat.time, .int .i64 e.bat.prod, .int .i64 e.bat.seq, .slice A n c] 29) (.cells #[.int .i64 f.kind, .string f.topic, .string f.group, .int .i64 f.part, .int .i64 f.parts, .int .i64 f.first, .int .i64 f.off, .int .i64 f.bat.time, .int .i64 f.bat.prod, .int .i64 f.bat.seq, .slice A' n' c'] 29)
  have hk4 := (Bk.made w 29 #[.int .i64 e.kind, .string e.topic, .string e.group, .int .i64 e.part, .int .i64 e.parts, .int .i64 e.first, .int .i64 e.off, .int .i64 e.bat.time, .int .i64 e.bat.prod, .int .i64 e.bat.seq, .slice A n c]).alloc (.cells #[.int .i64 f.kind, .string f.topic, .string f.group, .int .i64 f.part, .int .i64 f.parts, .int .i64 f.first, .int .i64 f.off, .int .i64 f.bat.time, .int .i64 f.bat.prod, .int .i64 f.bat.seq, .slice A' n' c'] 29)
  have hk5 := Bk.made_at (w.alloc (.cells #[.int .i64 e.kind, .string e.topic, .string e.group, .int .i64 e.part, .int .i64 e.parts, .int .i64 e.first, .int .i64 e.off, .int .i64 e.bat.time, .int .i64 e.bat.prod, .int .i64 e.bat.seq, .slice A n c] 29)) (w.heap.size + 1) 29 #[.int .i64 f.kind, .string f.topic, .string f.group, .int .i64 f.part, .int .i64 f.parts, .int .i64 f.first, .int .i64 f.off, .int .i64 f.bat.time, .int .i64 f.bat.prod, .int .i64 f.bat.seq, .slice A' n' c'] (by simp)
  have HB0 := Lib.hid hbn
  have HK4 := Lib.hid hk4
  have HK5 := Lib.hid hk5
  have HR4 := Lib.hid (hr.ext hbn)
  have HR5 := Lib.hid (hr'.ext hbn)
  have HL := Lib.hid hl
  clear hbn hr hl hr' hk4 hk5
  go_enter Tryd.func6, Tryd.ntmps6
  go_upto_region 1 with fail
  generalize (w.alloc (.cells #[.int .i64 e.kind, .string e.topic, .string e.group, .int .i64 e.part, .int .i64 e.parts, .int .i64 e.first, .int .i64 e.off, .int .i64 e.bat.time, .int .i64 e.bat.prod, .int .i64 e.bat.seq, .slice A n c] 29)).alloc (.cells #[.int .i64 f.kind, .string f.topic, .string f.group, .int .i64 f.part, .int .i64 f.parts, .int .i64 f.first, .int .i64 f.off, .int .i64 f.bat.time, .int .i64 f.bat.prod, .int .i64 f.bat.seq, .slice A' n' c'] 29) = w0 at HB0 HK4 HK5 HR4 HR5 ⊢
  generalize hg5 : w.heap.size + 1 = g5 at HK5 ⊢
  clear hg5
  generalize hg4 : w.heap.size = g4 at HK4 ⊢
  clear hg4
  have hk4 := HK4.out.lt
  have hk5 := HK5.out.lt
  have FS : Hid (∀ w', Below w0.heap.size w0 w' → (Below w0.heap.size w0 w' ∧ (ldE (.pointer (some ⟨g4, 0, none⟩))).run Tryd.prog w' = .ok (.agg #[.int .i64 e.kind, .string e.topic, .string e.group, .int .i64 e.part, .int .i64 e.parts, .int .i64 e.first, .int .i64 e.off, .int .i64 e.bat.time, .int .i64 e.bat.prod, .int .i64 e.bat.seq, .slice A n c]) w' ∧ (ldE (.pointer (some ⟨g5, 0, none⟩))).run Tryd.prog w' = .ok (.agg #[.int .i64 f.kind, .string f.topic, .string f.group, .int .i64 f.part, .int .i64 f.parts, .int .i64 f.first, .int .i64 f.off, .int .i64 f.bat.time, .int .i64 f.bat.prod, .int .i64 f.bat.seq, .slice A' n' c']) w')) := fun w' hb => ⟨hb, ldE_bk (HK4.out.ext hb), ldE_bk (HK5.out.ext hb)⟩
  have KA : Hid (∀ (w' : World) (o : Obj) (R : Prop), Below w0.heap.size w0 w' ∧ R → Below w0.heap.size w0 (w'.alloc o)) := fun w' o R h => h.1.alloc h.1.size o
  have KD : Hid (∀ (w' : World) (o : Obj) (R : Prop), Below w0.heap.size w0 w'.drew ∧ R → Below w0.heap.size w0 (w'.alloc o).drew) := fun w' o R h => h.1.alloc h.1.size o
  have KR : Hid (∀ (w' : World) (g : Nat) (r : Array Value) (R : Prop), Below w0.heap.size w0 w' ∧ R → w0.heap.size ≤ g → Below w0.heap.size w0 (w'.setRow g r)) := fun w' g r R h hg => below_row h.1 h.1.size hg r
  have KC : Hid (∀ (w' w'' : World) (R : Prop), Below w0.heap.size w0 w' ∧ R → Below w'.heap.size w' w'' → Below w0.heap.size w0 w'') := fun w' w'' R h hb => h.1.trans (below_le h.1.size hb)
  have KZ : Hid (∀ (w' : World) (R : Prop), Below w0.heap.size w0 w' ∧ R → w0.heap.size ≤ w'.heap.size) := fun w' R h => h.1.size
  have HFa : Hid (∀ (w' : World) (R : Prop), Below w0.heap.size w0 w' ∧ R → Calls Tryd.prog 10 #[.agg #[.int .i64 e.kind, .string e.topic, .string e.group, .int .i64 e.part, .int .i64 e.parts, .int .i64 e.first, .int .i64 e.off, .int .i64 e.bat.time, .int .i64 e.bat.prod, .int .i64 e.bat.seq, .slice A n c]] w' fun er w'' => ∃ (x : Ent) (A' : Option Addr) (n' c' : Nat), er = .returned (.agg #[.int .i64 x.kind, .string x.topic, .string x.group, .int .i64 x.part, .int .i64 x.parts, .int .i64 x.first, .int .i64 x.off, .int .i64 x.bat.time, .int .i64 x.bat.prod, .int .i64 x.bat.seq, .slice A' n' c']) ∧ RdT w'' A' n' c' x.bat.vals ∧ Below w'.heap.size w' w'' ∧ (∀ ad, A' = some ad → w'.heap.size ≤ ad.block ∧ ad.block < w''.heap.size)) := fun w' R h => few_prov e A n c w' (RdT.ext HR4.out h.1)
  have HFb : Hid (∀ (w' : World) (R : Prop), Below w0.heap.size w0 w' ∧ R → Calls Tryd.prog 10 #[.agg #[.int .i64 f.kind, .string f.topic, .string f.group, .int .i64 f.part, .int .i64 f.parts, .int .i64 f.first, .int .i64 f.off, .int .i64 f.bat.time, .int .i64 f.bat.prod, .int .i64 f.bat.seq, .slice A' n' c']] w' fun er w'' => ∃ (x : Ent) (A' : Option Addr) (n' c' : Nat), er = .returned (.agg #[.int .i64 x.kind, .string x.topic, .string x.group, .int .i64 x.part, .int .i64 x.parts, .int .i64 x.first, .int .i64 x.off, .int .i64 x.bat.time, .int .i64 x.bat.prod, .int .i64 x.bat.seq, .slice A' n' c']) ∧ RdT w'' A' n' c' x.bat.vals ∧ Below w'.heap.size w' w'' ∧ (∀ ad, A' = some ad → w'.heap.size ≤ ad.block ∧ ad.block < w''.heap.size)) := fun w' R h => few_prov f A' n' c' w' (RdT.ext HR5.out h.1)
  go_cut [9, 10] from 19 to 111 (fun s9 s10 wx => ∃ (x : Ent) (A1 : Option Addr) (n1 c1 : Nat) (y : Ent) (A2 : Option Addr) (n2 c2 g9 g10 : Nat), s9 = .pointer (some ⟨g9, 0, none⟩) ∧ s10 = .pointer (some ⟨g10, 0, none⟩) ∧ g9 ≠ g10 ∧ w0.heap.size ≤ g9 ∧ w0.heap.size ≤ g10 ∧ Two2 wx g9 g10 x A1 n1 c1 y A2 n2 c2 ∧ Below w0.heap.size w0 wx)
  case first =>
    go_region_held3 (fun w' => Below w0.heap.size w0 w' ∧ (ldE (.pointer (some ⟨g4, 0, none⟩))).run Tryd.prog w' = .ok (.agg #[.int .i64 e.kind, .string e.topic, .string e.group, .int .i64 e.part, .int .i64 e.parts, .int .i64 e.first, .int .i64 e.off, .int .i64 e.bat.time, .int .i64 e.bat.prod, .int .i64 e.bat.seq, .slice A n c]) w' ∧ (ldE (.pointer (some ⟨g5, 0, none⟩))).run Tryd.prog w' = .ok (.agg #[.int .i64 f.kind, .string f.topic, .string f.group, .int .i64 f.part, .int .i64 f.parts, .int .i64 f.first, .int .i64 f.off, .int .i64 f.bat.time, .int .i64 f.bat.prod, .int .i64 f.bat.seq, .slice A' n' c']) w') (first | exact FS.out _ (below_drew1 (Below.refl _ _)) | exact FS.out _ (KA.out _ _ _ (by assumption)) | exact FS.out _ (KD.out _ _ _ (by assumption)) | exact FS.out _ (KR.out _ _ _ _ (by assumption) (by first | exact Nat.le_refl _ | omega)) | exact FS.out _ (KC.out _ _ _ (by assumption) (by first | exact hb7 | exact hb6))) (first | (go_at_call 10; with_reducible refine (HFa.out _ _ (by assumption)).mono ?_; rintro er w6 ⟨x, A1, n1, c1, rfl, hr6, hb6, hp6⟩; have hI6 : ∀ G, isE _ G → isE w6 G := fun G h => h.ext hb6; have hz6 : w0.heap.size ≤ w6.heap.size := KZ.out _ _ ⟨KC.out _ _ _ (by assumption) hb6, True.intro⟩) | (go_at_call 10; with_reducible refine (HFb.out _ _ (by assumption)).mono ?_; rintro er w7 ⟨y, A2, n2, c2, rfl, hr7, hb7, hp7⟩; have hI7 : ∀ G, isE _ G → isE w7 G := fun G h => h.ext hb7; have hz7 : w0.heap.size ≤ w7.heap.size := KZ.out _ _ ⟨KC.out _ _ _ (by assumption) hb7, True.intro⟩) | fail)
    all_goals (go_wp2_with fail; go_meet; have s6 := hb6.size; have s7 := hb7.size; have p6 := hp6; have p7 := hp7; simp at s6 s7 p6 p7; refine ⟨x, A1, n1, c1, y, A2, n2, c2, _, _, rfl, rfl, ?_, ?_, ?_, Two2.made ?_ ?_ ?_ ?_ ?_ ?_ ?_, ?_⟩)
    all_goals first | exact (‹Below w0.heap.size w0 _ ∧ _›).1 | omega | (simp [isE_alloc, isE_drew, hI6, hI7]; done) | ((repeat (refine RdT.al ?_ _)); first | exact hr7 | (refine RdT.ext ?_ hb7; (repeat (refine RdT.al ?_ _)); exact hr6)) | (intro ad e; first | (have p := p6 ad e; omega) | (have p := p7 ad e; omega))
  case rest =>
    obtain ⟨x, A1, n1, c1, y, A2, n2, c2, g9, g10, rfl, rfl, hne, hq9, hq10, ⟨hk9, hk10, hr1, hr2⟩, hbx⟩ := hcut
    have HB1 := Lib.hid (show BelG w.heap.size w wc from ⟨HB0.out.trans (below_le HB0.out.size hbx), Nat.le_trans HB0.out.size hbx.size⟩)
    have HK9 := Lib.hid hk9
    have HK10 := Lib.hid hk10
    have HR1 := Lib.hid hr1
    have HR2 := Lib.hid hr2
    clear hk9 hk10 hr1 hr2 hbx hne hq9 hq10 HFa HFb KA KD KR KC KZ FS HK4 HK5 HR4 HR5 hk4 hk5 HB0
    have FS : Hid (∀ w', Below wc.heap.size wc w' → (Below wc.heap.size wc w' ∧ (ldE (.pointer (some ⟨g9, 0, none⟩))).run Tryd.prog w' = .ok (.agg #[.int .i64 x.kind, .string x.topic, .string x.group, .int .i64 x.part, .int .i64 x.parts, .int .i64 x.first, .int .i64 x.off, .int .i64 x.bat.time, .int .i64 x.bat.prod, .int .i64 x.bat.seq, .slice A1 n1 c1]) w' ∧ (ldE (.pointer (some ⟨g10, 0, none⟩))).run Tryd.prog w' = .ok (.agg #[.int .i64 y.kind, .string y.topic, .string y.group, .int .i64 y.part, .int .i64 y.parts, .int .i64 y.first, .int .i64 y.off, .int .i64 y.bat.time, .int .i64 y.bat.prod, .int .i64 y.bat.seq, .slice A2 n2 c2]) w')) := fun w' hb => ⟨hb, ldE_bk (HK9.out.ext hb), ldE_bk (HK10.out.ext hb)⟩
    have KC : Hid (∀ (w' w'' : World) (R : Prop), Below wc.heap.size wc w' ∧ R → Below w'.heap.size w' w'' → Below wc.heap.size wc w'') := fun w' w'' R h hb => h.1.trans (below_le h.1.size hb)
    have HPa : Hid (∀ (w' : World) (R : Prop), Below wc.heap.size wc w' ∧ R → Calls Tryd.prog 9 #[.agg #[.int .i64 x.kind, .string x.topic, .string x.group, .int .i64 x.part, .int .i64 x.parts, .int .i64 x.first, .int .i64 x.off, .int .i64 x.bat.time, .int .i64 x.bat.prod, .int .i64 x.bat.seq, .slice A1 n1 c1]] w' fun er w'' => ∃ A' M c', er = .returned (.slice A' M c') ∧ OwnB w'' w'.heap.size (.slice A' M c') (putE x) ∧ Below w'.heap.size w' w'') := fun w' R h => ePut_any x A1 n1 c1 w' (RdT.ext HR1.out h.1)
    have HPb : Hid (∀ (w' : World) (R : Prop), Below wc.heap.size wc w' ∧ R → Calls Tryd.prog 9 #[.agg #[.int .i64 y.kind, .string y.topic, .string y.group, .int .i64 y.part, .int .i64 y.parts, .int .i64 y.first, .int .i64 y.off, .int .i64 y.bat.time, .int .i64 y.bat.prod, .int .i64 y.bat.seq, .slice A2 n2 c2]] w' fun er w'' => ∃ A' M c', er = .returned (.slice A' M c') ∧ OwnB w'' w'.heap.size (.slice A' M c') (putE y) ∧ Below w'.heap.size w' w'') := fun w' R h => ePut_any y A2 n2 c2 w' (RdT.ext HR2.out h.1)
    go_wp2_with fail
    go_region_held3 (fun w' => Below wc.heap.size wc w' ∧ (ldE (.pointer (some ⟨g9, 0, none⟩))).run Tryd.prog w' = .ok (.agg #[.int .i64 x.kind, .string x.topic, .string x.group, .int .i64 x.part, .int .i64 x.parts, .int .i64 x.first, .int .i64 x.off, .int .i64 x.bat.time, .int .i64 x.bat.prod, .int .i64 x.bat.seq, .slice A1 n1 c1]) w' ∧ (ldE (.pointer (some ⟨g10, 0, none⟩))).run Tryd.prog w' = .ok (.agg #[.int .i64 y.kind, .string y.topic, .string y.group, .int .i64 y.part, .int .i64 y.parts, .int .i64 y.first, .int .i64 y.off, .int .i64 y.bat.time, .int .i64 y.bat.prod, .int .i64 y.bat.seq, .slice A2 n2 c2]) w') (first | exact FS.out _ (below_drew1 (Below.refl _ _)) | exact FS.out _ (by assumption)) (first | (go_at_call 9; with_reducible refine (HPa.out _ _ (by assumption)).mono ?_; rintro er w2 ⟨A3, M3, c3, rfl, ho3, hb3⟩; have hq2 : Below wc.heap.size wc w2 := KC.out _ _ _ (by assumption) hb3) | (go_at_call 9; with_reducible refine (HPb.out _ _ (by assumption)).mono ?_; rintro er w3 ⟨A4, M4, c4, rfl, ho4, hb4⟩; have hq3 : Below wc.heap.size wc w3 := KC.out _ _ _ (by assumption) hb4) | fail)
    have HI : Hid (BackI w.heap.size w g9 g10 x A1 n1 c1 y A2 n2 c2 A3 M3 c3 A4 M4 c4 w3) := ⟨HK9.out.ext hq3, HK10.out.ext hq3, RdT.ext HR1.out hq3, RdT.ext HR2.out hq3, (OwnB.ext ho3 hb4).rd, ho4.rd, HB1.out.next hq3⟩
    have hl3 := HI.out.p.len
    have hl4 := HI.out.q.len
    have hrx := right_len hl3
    have hry := right_len hl4
    have hcap3 := HI.out.p.cap
    have hM3 := putE_len x
    rw [hl3] at hM3
    have HL3 := Lib.hid hl3
    clear ho3 ho4 hb3 hb4 hq2 hq3 HPa HPb KC FS HK9 HK10 HR1 HR2 HB1 hl3 hl4
    rcases Nat.eq_zero_or_pos M3 with hm3 | hm3
    · subst hm3
      rcases Nat.eq_zero_or_pos M4 with hm4 | hm4
      · subst hm4
        have HRx := Lib.hid (eRight_any x A1 n1 c1 w3 HI.out.rx false hrx)
        have l9 := ldE_bk HI.out.k9
        go_wp2_with fail
        with_reducible refine HRx.out.mono ?_
        rintro er w5 ⟨rfl, hb5⟩
        have HI5 := Lib.hid (HI.out.ext hb5)
        have l10 := ldE_bk HI5.out.k10
        have HRy := Lib.hid (eRight_any y A2 n2 c2 w5 HI5.out.ry false hry)
        clear hb5 l9 HRx
        go_wp2_with fail
        with_reducible refine HRy.out.mono ?_
        rintro er w6 ⟨rfl, hb6⟩
        have HB6 := Lib.hid (HI5.out.b.next hb6)
        clear hb6 l10 HRy
        go_wp2_with fail
        refine (entryRuns_any _).mono ?_
        rintro er wz ⟨rfl, hbz⟩
        go_wp2_with fail
        go_ret
        exact ⟨rfl, (HB6.out.next hbz).1⟩
      · have hp4 : (0 : Int) < (M4 : Int) := by omega
        rw [decide_eq_true hm4] at hry
        have HRx := Lib.hid (eRight_any x A1 n1 c1 w3 HI.out.rx false hrx)
        have l9 := ldE_bk HI.out.k9
        go_wp2_with fail
        with_reducible refine HRx.out.mono ?_
        rintro er w5 ⟨rfl, hb5⟩
        have HI5 := Lib.hid (HI.out.ext hb5)
        have l10 := ldE_bk HI5.out.k10
        have HRy := Lib.hid (eRight_any y A2 n2 c2 w5 HI5.out.ry true hry)
        clear hb5 l9 HRx
        go_wp2_with fail
        with_reducible refine HRy.out.mono ?_
        rintro er w6 ⟨rfl, hb6⟩
        have HB6 := Lib.hid (HI5.out.b.next hb6)
        clear hb6 l10 HRy
        go_wp2_with fail
        refine (entryRuns_any _).mono ?_
        rintro er wz ⟨rfl, hbz⟩
        go_wp2_with fail
        go_ret
        exact ⟨rfl, (HB6.out.next hbz).1⟩
    · have hp3 : (0 : Int) < (M3 : Int) := by omega
      have hz3 : ((M3 : Int) == 0) = false := by simp; omega
      rw [decide_eq_true hm3] at hrx
      rcases Nat.eq_zero_or_pos M4 with hm4 | hm4
      · subst hm4
        have HRx := Lib.hid (eRight_any x A1 n1 c1 w3 HI.out.rx true hrx)
        have l9 := ldE_bk HI.out.k9
        go_wp2_with fail
        with_reducible refine HRx.out.mono ?_
        rintro er w5 ⟨rfl, hb5⟩
        have HI5 := Lib.hid (HI.out.ext hb5)
        have l10 := ldE_bk HI5.out.k10
        have HRy := Lib.hid (eRight_any y A2 n2 c2 w5 HI5.out.ry false hry)
        clear hb5 l9 HRx
        go_wp2_with fail
        with_reducible refine HRy.out.mono ?_
        rintro er w6 ⟨rfl, hb6⟩
        have HB6 := Lib.hid (HI5.out.b.next hb6)
        clear hb6 l10 HRy
        go_wp2_with fail
        refine (entryRuns_any _).mono ?_
        rintro er wz ⟨rfl, hbz⟩
        go_wp2_with fail
        go_ret
        exact ⟨rfl, (HB6.out.next hbz).1⟩
      · have hz4 : ((M4 : Int) == 0) = false := by simp; omega
        rw [decide_eq_true hm4] at hry
        have HRx := Lib.hid hrx
        have HRy := Lib.hid hry
        clear hrx hry
        have HG5 := Lib.hid (eget_any A3 M3 c3 (putE x) w3 HI.out.p)
        go_wp2_with fail
        with_reducible refine HG5.out.mono ?_
        rintro er w5 ⟨x', A5, n5, c5, v5, rfl, hg5, hb5⟩
        obtain ⟨hr5, hv5⟩ := hg5
        obtain ⟨rfl, rfl⟩ : v5 = .nilIface ∧ x = x' := by
          rcases hv5 with ⟨h1, h2⟩ | ⟨_, d, k, _, _, h3⟩
          · rw [getE_put HRx.out] at h2
            injection h2 with h2
            exact ⟨h1, h2⟩
          · rw [getE_put HRx.out] at h3
            cases h3
        have hst5 := stE_newAt w5 w5.heap.size rfl x.kind x.topic x.group x.part x.parts x.first x.off x.bat.time x.bat.prod x.bat.seq A5 n5 c5 #[.int .i64 0, .string ⟨#[]⟩, .string ⟨#[]⟩, .int .i64 0, .int .i64 0, .int .i64 0, .int .i64 0, .int .i64 0, .int .i64 0, .int .i64 0, .slice none 0 0] rfl
        have hbn5 := below_new w5 (.cells #[.int .i64 x.kind, .string x.topic, .string x.group, .int .i64 x.part, .int .i64 x.parts, .int .i64 x.first, .int .i64 x.off, .int .i64 x.bat.time, .int .i64 x.bat.prod, .int .i64 x.bat.seq, .slice A5 n5 c5] 29)
        have HK13 := Lib.hid (Bk.made w5 29 #[.int .i64 x.kind, .string x.topic, .string x.group, .int .i64 x.part, .int .i64 x.parts, .int .i64 x.first, .int .i64 x.off, .int .i64 x.bat.time, .int .i64 x.bat.prod, .int .i64 x.bat.seq, .slice A5 n5 c5])
        have HI5 := Lib.hid ((HI.out.ext hb5).ext hbn5)
        have HR13 := Lib.hid (RdT.ext hr5 hbn5)
        clear hr5 hv5 hb5 hbn5 HG5 HI
        go_upto_region 6 with fail
        clear hst5
        generalize w5.heap.size = g13 at HK13 ⊢
        generalize w5.alloc (.cells #[.int .i64 x.kind, .string x.topic, .string x.group, .int .i64 x.part, .int .i64 x.parts, .int .i64 x.first, .int .i64 x.off, .int .i64 x.bat.time, .int .i64 x.bat.prod, .int .i64 x.bat.seq, .slice A5 n5 c5] 29) = W5 at HK13 HI5 HR13 ⊢
        obtain ⟨k, hk⟩ : ∃ k : Nat, within z 0 ((M3 : Int) - 1) = k := ⟨(within z 0 ((M3 : Int) - 1)).toNat, by have := within_in z 0 ((M3 : Int) - 1) (by omega); omega⟩
        have hkM : k < M3 := by have := within_in z 0 ((M3 : Int) - 1) (by omega); omega
        have hk1 : (k : Int) < (M3 : Int) := by omega
        have hk0 : (0 : Int) ≤ (k : Int) := by omega
        have hk2 : (k : Int) ≤ (c3 : Int) := by omega
        have hwr : wrap64 ((M3 : Int) - 1) = (M3 : Int) - 1 := IntWalk.wrap64_in _ ⟨by omega, by omega⟩
        have hW := within_any z 0 ((M3 : Int) - 1) W5 (by omega) (by omega) (by omega) hz.1 hz.2
        rw [hk] at hW
        have HW := Lib.hid hW
        have HG6 := Lib.hid (eget_any A3 k c3 ((putE x).take k) W5 (RdB.upto HI5.out.p k (Nat.le_of_lt hkM)))
        have Hcut := Lib.hid (getE_cut HRx.out (k := k) (by rw [HL3.out]; exact hkM))
        clear hk hW
        go_wp2_with fail
        with_reducible refine HW.out.mono ?_
        rintro er w6 ⟨rfl, rfl⟩
        go_wp2_with fail
        with_reducible refine HG6.out.mono ?_
        rintro er w7 ⟨n0, A7, n7, c7, v7, rfl, hg7, hb7⟩
        obtain ⟨hr7, hv7⟩ := hg7
        obtain ⟨rfl, d7, k7, hd7, hke7, rfl⟩ : n0 = noE ∧ ∃ d k, d ≤ 1 ∧ IsErr (d + 1) v7 k ∧ k = 3 := by
          rcases hv7 with ⟨_, h⟩ | ⟨h0, d, k, h1, h2, h3⟩
          · rw [Hcut.out] at h
            cases h
          · rw [Hcut.out] at h3
            exact ⟨h0, d, k, h1, h2, by injection h3 with h4; exact h4.symm⟩
        have hst7 := stE_newAt w7 w7.heap.size rfl noE.kind noE.topic noE.group noE.part noE.parts noE.first noE.off noE.bat.time noE.bat.prod noE.bat.seq A7 n7 c7 #[.int .i64 0, .string ⟨#[]⟩, .string ⟨#[]⟩, .int .i64 0, .int .i64 0, .int .i64 0, .int .i64 0, .int .i64 0, .int .i64 0, .int .i64 0, .slice none 0 0] rfl
        have hbn7 := below_new w7 (.cells #[.int .i64 noE.kind, .string noE.topic, .string noE.group, .int .i64 noE.part, .int .i64 noE.parts, .int .i64 noE.first, .int .i64 noE.off, .int .i64 noE.bat.time, .int .i64 noE.bat.prod, .int .i64 noE.bat.seq, .slice A7 n7 c7] 29)
        have hb77 := hb7.trans (below_le hb7.size hbn7)
        have HK13' := Lib.hid (HK13.out.ext hb77)
        have HI7 := Lib.hid (HI5.out.ext hb77)
        have HR13' := Lib.hid (RdT.ext HR13.out hb77)
        have HE7 := Lib.hid hke7
        clear hr7 hv7 hb7 hbn7 hb77 hke7 HG6 HI5 HK13 HR13 HW Hcut hwr hk0 hk1 hk2 hkM
        go_upto_region 7 with fail
        clear hst7
        generalize w7.alloc (.cells #[.int .i64 noE.kind, .string noE.topic, .string noE.group, .int .i64 noE.part, .int .i64 noE.parts, .int .i64 noE.first, .int .i64 noE.off, .int .i64 noE.bat.time, .int .i64 noE.bat.prod, .int .i64 noE.bat.seq, .slice A7 n7 c7] 29) = W7 at HK13' HI7 HR13' ⊢
        have hbe := below_new W7 (.cells #[] 5)
        have Hemp := Lib.hid (OwnB.empty W7 W7.heap.size (Nat.le_refl _))
        have HP7 := Lib.hid (RdB.ext HI7.out.p hbe)
        have Hbe := Lib.hid hbe
        clear hbe
        go_wp2_with (first | (at_builtin; refine wpList_append_bytes rfl (.tmp 69) (.tmp 70) rfl W7.heap.size W7 _ [] rfl Hemp.out A3 M3 c3 (putE x) rfl HP7.out (by simp; omega) Hbe.out Hbe.out.size M3 (by simp) ?_; intro A9 c9 w9 ho9 hb9 hs9) | (at_builtin; refine wpList_append_bytes rfl (.tmp 71) (.tmp 73) rfl W7.heap.size W7 _ ([] ++ putE x) rfl (World.ownsRow.alloc ho9.out _) (some ⟨w9.heap.size, 0, none⟩) 1 1 [b0] rfl (RdB.const w9 [b0] _ rfl 5 (0, 0) 1 rfl (by omega)) (by rw [List.nil_append, HL3.out]; omega) (hb9.alloc hs9 _) (by simp; omega) (M3 + 1) (by rw [List.nil_append, HL3.out]) ?_; intro A10 c10 w10 ho10 hb10 hs10; have HO10 := Lib.hid (show RdB w10 A10 (M3 + 1) c10 (putE x ++ [b0]) from ho10.out.rd); have HI10 := Lib.hid (HI7.out.ext hb10); have HB10 := Lib.hid hb10; clear ho9 ho10 hb9 hb10) | fail)
        have Hmore := Lib.hid (getE_more HRx.out b0)
        refine (eget_any A10 (M3 + 1) c10 (putE x ++ [b0]) w10 HO10.out).mono ?_
        rintro er w8' ⟨n0, A8, n8, c8, v8, rfl, hg8, hb8⟩
        obtain ⟨hr8, hv8⟩ := hg8
        obtain ⟨rfl, d8, k8, hd8, hke8, rfl⟩ : n0 = noE ∧ ∃ d k, d ≤ 1 ∧ IsErr (d + 1) v8 k ∧ k = 4 := by
          rcases hv8 with ⟨_, h⟩ | ⟨h0, d, k, h1, h2, h3⟩
          · rw [Hmore.out] at h
            cases h
          · rw [Hmore.out] at h3
            exact ⟨h0, d, k, h1, h2, by injection h3 with h4; exact h4.symm⟩
        have hst8 := stE_newAt w8' w8'.heap.size rfl noE.kind noE.topic noE.group noE.part noE.parts noE.first noE.off noE.bat.time noE.bat.prod noE.bat.seq A8 n8 c8 #[.int .i64 0, .string ⟨#[]⟩, .string ⟨#[]⟩, .int .i64 0, .int .i64 0, .int .i64 0, .int .i64 0, .int .i64 0, .int .i64 0, .int .i64 0, .slice none 0 0] rfl
        have hbn8 := below_new w8' (.cells #[.int .i64 noE.kind, .string noE.topic, .string noE.group, .int .i64 noE.part, .int .i64 noE.parts, .int .i64 noE.first, .int .i64 noE.off, .int .i64 noE.bat.time, .int .i64 noE.bat.prod, .int .i64 noE.bat.seq, .slice A8 n8 c8] 29)
        have hb88 := HB10.out.trans (below_le (Nat.le_trans hs10 (Nat.le_refl _)) (hb8.trans (below_le hb8.size hbn8)))
        have HK13'' := Lib.hid (HK13'.out.ext hb88)
        have HI8 := Lib.hid (HI7.out.ext hb88)
        have HR13'' := Lib.hid (RdT.ext HR13'.out hb88)
        have HE8 := Lib.hid hke8
        clear hr8 hv8 hb8 hbn8 hb88 hke8 HI7 HK13' HR13' Hmore HO10 HI10 HB10 Hemp HP7 Hbe
        go_upto_region 8 with fail
        clear hst8
        generalize w8'.alloc (.cells #[.int .i64 noE.kind, .string noE.topic, .string noE.group, .int .i64 noE.part, .int .i64 noE.parts, .int .i64 noE.first, .int .i64 noE.off, .int .i64 noE.bat.time, .int .i64 noE.bat.prod, .int .i64 noE.bat.seq, .slice A8 n8 c8] 29) = W8 at HK13'' HI8 HR13'' ⊢
        have hL := ErrLaid.below HL.out HI8.out.b.1
        have hRuns := Lib.hid (fun t : Ext W8 => ext_of (entryRuns_any t.w))
        have l9 := fun t : Ext W8 => ldE_bk (HI8.out.k9.ext t.below)
        have l10 := fun t : Ext W8 => ldE_bk (HI8.out.k10.ext t.below)
        have l13 := fun t : Ext W8 => ldE_bk (HK13''.out.ext t.below)
        have h600 : (M3 : Int) ≤ 600 := by omega
        obtain ⟨r, hre⟩ : ∃ r, decide (putE x = putE y) = r := ⟨_, rfl⟩
        have hEn1 := Lib.hid (fun t : Ext W8 => ext_of (entries_any x x A5 A1 n5 c5 n1 c1 true (by rw [(same_iff.2 rfl).1, (same_iff.2 rfl).2]; rfl) t.w (RdT.ext HR13''.out t.below) (RdT.ext HI8.out.rx t.below)))
        have hEn2 := Lib.hid (fun t : Ext W8 => ext_of (entries_any x y A1 A2 n1 c1 n2 c2 r (by rw [← put_inj HRx.out HRy.out, hre]) t.w (RdT.ext HI8.out.rx t.below) (RdT.ext HI8.out.ry t.below)))
        have hSm := Lib.hid (fun t : Ext W8 => ext_of_drawn (v := .bool r) (by rw [← hre]; exact sameB_any A3 M3 c3 (putE x) A4 M4 c4 (putE y) t.w (RdB.ext HI8.out.p t.below) (RdB.ext HI8.out.q t.below)))
        have hK3 := Lib.hid (fun t : Ext W8 => ext_of (kind_err HE7.out hd7 t.w (ErrLaid.below hL t.below)))
        have hK4 := Lib.hid (fun t : Ext W8 => ext_of (kind_err HE8.out hd8 t.w (ErrLaid.below hL t.below)))
        clear hre hL
        cases r
        all_goals
          refine wp_region_ext (by kernel_rfl) (by kernel_rfl) ?_
          repeat (go_big_quiet_step (first | (go_at_call 14; first | with_reducible exact hEn1.out _ | with_reducible exact hEn2.out _) | (go_at_call 8; with_reducible exact hSm.out _) | (go_at_call 15; first | with_reducible exact hK3.out _ | with_reducible exact hK4.out _) | (go_at_call 3; with_reducible exact hRuns.out _)))
          refine wpQuiet_nil ?_
          intro _ hw'
          obtain ⟨t, hw''⟩ := hw'
          subst hw''
          go_wp2
          go_ret
          exact ⟨rfl, (HI8.out.b.next t.below).1⟩
end Go.Proofs.YtpfdbbcfcimmfaaDoor
