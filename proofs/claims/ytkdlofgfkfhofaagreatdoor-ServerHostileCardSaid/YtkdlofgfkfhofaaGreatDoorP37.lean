import Derived.Test.YtkdlofgfkfhofaaGreatDoorP36
import Derived.Test.YtkdlofgfkfhofaaGreatDoorP32
import Derived.Deep.CutRange
import Derived.Deep.RegionHeld3
import Derived.Deep.QuietTactic
import Derived.BigQuiet
import Derived.Test.YtkdlofgfkfhofaaGreatDoorP18
import Derived.Test.YtkdlofgfkfhofaaGreatDoorP33
/-
  ask: Get.
-/
namespace Go.Proofs.YtkdlofgfkfhofaaGreatDoor
open Go.RowKit
attribute [local go_sem ↓] ldB_eq stB_eq ldE_eq stE_eq ldA_eq stA_eq sliced_past
attribute [local go_sem] isA_drew isA_alloc stA_if pastA_zero pastA_some w8_nn w8_256 wrap_i64_w8 wrap64_w8

theorem wrapN_small (a : Nat) (h : a < 4294967296) : wrapN a = (a : Int) := by
  unfold wrapN
  rw [if_pos (by omega)]
theorem or4 (c0 c1 c2 c3 : UInt8) : bits .or .i64 (bits .or .i64 (bits .or .i64 (w8 c0) (wrap64 (w8 c1 * 256))) (wrap64 (w8 c2 * 65536))) (wrap64 (w8 c3 * 16777216)) = corr4 c0 c1 c2 c3 := by
  have h0 := c0.toNat_lt
  have h1 := c1.toNat_lt
  have h2 := c2.toNat_lt
  have h3 := c3.toNat_lt
  have s1 := or_step c0.toNat 1 c1 (by omega) (by omega)
  have s2 := or_step (c0.toNat + 256 * c1.toNat) 2 c2 (by omega) (by omega)
  have s3 := or_step (c0.toNat + 256 * c1.toNat + 65536 * c2.toNat) 3 c3 (by omega) (by omega)
  simp only [Nat.reduceMul, Int.reducePow, Nat.reducePow] at s1 s2 s3
  rw [wrapN_small _ (by omega), wrapN_small _ (by omega)] at s1 s2 s3
  rw [show w8 c0 = (c0.toNat : Int) from rfl, s1, s2, s3]
  unfold corr4 w8
  omega
theorem six_bytes {w : World} {A : Option Addr} {n c : Nat} {l : List UInt8} (h : RdB w A n c l) (hn : 6 ≤ n) : ∃ (ad : Addr) (v k c0 c1 c2 c3 : UInt8) (r : List UInt8), A = some ad ∧ l = v :: k :: c0 :: c1 :: c2 :: c3 :: r ∧ ad.block < w.heap.size ∧ w.cell? (ad.add 0) = some (.int .u8 (w8 v)) ∧ w.cell? (ad.add 1) = some (.int .u8 (w8 k)) ∧ w.cell? (ad.add 2) = some (.int .u8 (w8 c0)) ∧ w.cell? (ad.add 3) = some (.int .u8 (w8 c1)) ∧ w.cell? (ad.add 4) = some (.int .u8 (w8 c2)) ∧ w.cell? (ad.add 5) = some (.int .u8 (w8 c3)) := by
  have hl := h.len
  match l, hl, h with
  | v :: k :: c0 :: c1 :: c2 :: c3 :: r, hl, h =>
    have g : ∀ i (x : UInt8), (v :: k :: c0 :: c1 :: c2 :: c3 :: r)[i]? = some x → ∃ ad, A = some ad ∧ ad.block < w.heap.size ∧ w.cell? (ad.add i) = some (.int .u8 (w8 x)) := by
      intro i x hx
      obtain ⟨ad, e1, hw, e3⟩ := Rd.cell h i (.int .u8 (w8 x)) (by unfold bvs; rw [List.getElem?_map, hx]; rfl)
      exact ⟨ad, e1, hw, e3⟩
    obtain ⟨ad, rfl, hw, d0⟩ := g 0 v rfl
    obtain ⟨a1, e1, _, d1⟩ := g 1 k rfl
    obtain ⟨a2, e2, _, d2⟩ := g 2 c0 rfl
    obtain ⟨a3, e3, _, d3⟩ := g 3 c1 rfl
    obtain ⟨a4, e4, _, d4⟩ := g 4 c2 rfl
    obtain ⟨a5, e5, _, d5⟩ := g 5 c3 rfl
    injection e1 with e1; injection e2 with e2; injection e3 with e3; injection e4 with e4; injection e5 with e5
    subst e1 e2 e3 e4 e5
    exact ⟨_, v, k, c0, c1, c2, c3, r, rfl, rfl, hw, d0, d1, d2, d3, d4, d5⟩
  | [], hl, _ => exact absurd hl (by simp; omega)
  | [_], hl, _ => exact absurd hl (by simp; omega)
  | [_, _], hl, _ => exact absurd hl (by simp; omega)
  | [_, _, _], hl, _ => exact absurd hl (by simp; omega)
  | [_, _, _, _], hl, _ => exact absurd hl (by simp; omega)
  | [_, _, _, _, _], hl, _ => exact absurd hl (by simp; omega)
/-- what Get hands back -/
def GetAr (l : List UInt8) (w' : World) (x : Ask) (A : Option Addr) (n c : Nat) (v : Value) : Prop :=
  RdT w' A n c x.bat.vals ∧ ((v = .nilIface ∧ getA l = .ok x) ∨ (∃ co e d, x = noA.num co ∧ d ≤ 2 ∧ IsErr (d + 1) v e ∧ getA l = .error (co, e)))
set_option maxRecDepth 100000 in
set_option maxHeartbeats 4000000 in
theorem aget_any (A : Option Addr) (n c : Nat) (l : List UInt8) (w : World) (hr : RdB w A n c l) (hn : n ≤ 1000000) :
    Calls Tryz.prog 14 #[.slice A n c] w fun er w' => ∃ (x : Ask) (A' : Option Addr) (n' c' : Nat) (v : Value), er = .returned (.tuple #[.agg #[.int .i64 x.corr, .int .i64 x.kind, .string x.topic, .string x.group, .int .i64 x.part, .int .i64 x.parts, .int .i64 x.first, .int .i64 x.off, .int .i64 x.most, .int .i64 x.time, .int .i64 x.bat.time, .int .i64 x.bat.prod, .int .i64 x.bat.seq, .slice A' n' c'], v]) ∧ GetAr l w' x A' n' c' v ∧ Below w.heap.size w w' ∧ (∀ ad, A' = some ad → w.heap.size ≤ ad.block) := by
  have hz := Bk.made w 32 #[.int .i64 0, .int .i64 0, .string ⟨#[]⟩, .string ⟨#[]⟩, .int .i64 0, .int .i64 0, .int .i64 0, .int .i64 0, .int .i64 0, .int .i64 0, .int .i64 0, .int .i64 0, .int .i64 0, .slice none 0 0]
  have hbn := below_new w (.cells #[.int .i64 0, .int .i64 0, .string ⟨#[]⟩, .string ⟨#[]⟩, .int .i64 0, .int .i64 0, .int .i64 0, .int .i64 0, .int .i64 0, .int .i64 0, .int .i64 0, .int .i64 0, .int .i64 0, .slice none 0 0] 32)
  have Hz := Lib.hid hz
  have HB := Lib.hid hbn
  have HR := Lib.hid (hr.ext hbn)
  have hlen := hr.len
  by_cases h6 : n < 6
  · have h6' : (n : Int) < 6 := by omega
    have hst := stA_row hz rfl 0 0 ⟨#[]⟩ ⟨#[]⟩ 0 0 0 0 0 0 0 0 0 none 0 0
    clear hz hbn hr
    go_enter Tryz.func14, Tryz.ntmps14
    go_wp2_with (first | (go_at_call 39; refine (wrap_err (.no 3) _ _ _).mono ?_; rintro er w4 ⟨v4, rfl, he4, rfl⟩) | fail)
    exact bodyPost_ret (res_ask (u := 3) rfl _ _ w.heap.size 0 0 ⟨#[]⟩ ⟨#[]⟩ 0 0 0 0 0 0 0 0 0 none 0 0 rfl (Bk.row Hz.out _)) rfl ⟨noA, none, 0, 0, v4, rfl, ⟨RdT.nil _, .inr ⟨0, 3, 0, rfl, by omega, he4, getA_short (by rw [hlen]; exact h6)⟩⟩, below_row HB.out HB.out.size (Nat.le_refl _) _, fun ad h => by cases h⟩
  · have h6' : ¬ (n : Int) < 6 := by omega
    have hcap := hr.cap
    obtain ⟨ad, v, k, c0, c1, c2, c3, r, rfl, rfl, hadw, d0, d1, d2, d3, d4, d5⟩ := six_bytes HR.out (by omega)
    rw [add_pos' _ _ (by omega)] at d1 d2 d3 d4 d5
    rw [show ad.add 0 = ad by unfold Addr.add; simp] at d0
    have hn6 : (6 : Int) ≤ (n : Int) := by omega
    have hnc : (n : Int) ≤ (c : Int) := by omega
    have hi0 : (0 : Int) < (n : Int) := by omega
    have hi1 : (1 : Int) < (n : Int) := by omega
    have hi2 : (2 : Int) < (n : Int) := by omega
    have hi3 : (3 : Int) < (n : Int) := by omega
    have hi4 : (4 : Int) < (n : Int) := by omega
    have hi5 : (5 : Int) < (n : Int) := by omega
    have hlt : w.heap.size < (w.alloc (.cells #[.int .i64 0, .int .i64 0, .string ⟨#[]⟩, .string ⟨#[]⟩, .int .i64 0, .int .i64 0, .int .i64 0, .int .i64 0, .int .i64 0, .int .i64 0, .int .i64 0, .int .i64 0, .int .i64 0, .slice none 0 0] 32)).heap.size := by simp
    have Hlen := Lib.hid hlen
    clear hz hbn hr hlen
    go_enter Tryz.func14, Tryz.ntmps14
    go_upto_region 3 with fail
    generalize w.alloc (.cells #[.int .i64 0, .int .i64 0, .string ⟨#[]⟩, .string ⟨#[]⟩, .int .i64 0, .int .i64 0, .int .i64 0, .int .i64 0, .int .i64 0, .int .i64 0, .int .i64 0, .int .i64 0, .int .i64 0, .slice none 0 0] 32) = w1 at Hz HB HR hadw d0 d1 d2 d3 d4 d5 hlt ⊢
    go_quiet (fail)
    have hcor := or4 c0 c1 c2 c3
    rw [hcor]
    clear hcor
    have hn0 : w1.heap.size = (w1.drewN nq).heap.size := rfl
    have hdn := below_drawn (Below.refl w1.heap.size w1) nq
    have Hz2 := Lib.hid (Hz.out.ext hdn)
    have HB2 := Lib.hid (HB.out.trans (below_le HB.out.size hdn))
    have HR2 := Lib.hid (HR.out.ext hdn)
    have e0 : (w1.drewN nq).cell? ad = some (.int .u8 (w8 v)) := d0
    have e1 : (w1.drewN nq).cell? ⟨ad.block, ad.off + 1, none⟩ = some (.int .u8 (w8 k)) := d1
    have hlt2 : w.heap.size < (w1.drewN nq).heap.size := hlt
    have hadw2 : ad.block < (w1.drewN nq).heap.size := hadw
    clear hdn d0 d1 d2 d3 d4 d5 hlt hadw Hz HB HR
    generalize w1.drewN nq = w2 at Hz2 HB2 HR2 e0 e1 hlt2 hadw2 ⊢
    clear hn0
    obtain ⟨co, hco⟩ : ∃ co, corr4 c0 c1 c2 c3 = co := ⟨_, rfl⟩
    rw [hco]
    have Hco := Lib.hid hco
    clear hco
    by_cases hv1 : w8 v = 1
    · have hvn : (w8 v != 1) = false := by simp [hv1]
      have Hv1 := Lib.hid hv1
      clear hv1
      go_upto_region 6 with fail
      have hrp := HR2.out.past' 6 (by omega)
      have HRp := Lib.hid (show RdB w2 (pastA (some ad) 6 c 1) (n - 6) (c - 6) r from hrp)
      clear hrp
      have FS : Hid (∀ w', Below w2.heap.size w2 w' → (Below w2.heap.size w2 w' ∧ w'.cell? ⟨ad.block, ad.off + 1, none⟩ = some (.int .u8 (w8 k)))) := fun w' hb => ⟨hb, (hb.cell (p := ⟨ad.block, ad.off + 1, none⟩) hadw2).trans e1⟩
      have KA : Hid (∀ (w' : World) (o : Obj) (R : Prop), Below w2.heap.size w2 w' ∧ R → Below w2.heap.size w2 (w'.alloc o)) := fun w' o R h => h.1.alloc h.1.size o
      have KD : Hid (∀ (w' : World) (o : Obj) (R : Prop), Below w2.heap.size w2 w'.drew ∧ R → Below w2.heap.size w2 (w'.alloc o).drew) := fun w' o R h => h.1.alloc h.1.size o
      have KR : Hid (∀ (w' : World) (g : Nat) (r : Array Value) (R : Prop), Below w2.heap.size w2 w' ∧ R → w2.heap.size ≤ g → Below w2.heap.size w2 (w'.setRow g r)) := fun w' g r R h hg => below_row h.1 h.1.size hg r
      have KC : Hid (∀ (w' w'' : World) (R : Prop), Below w2.heap.size w2 w' ∧ R → Below w'.heap.size w' w'' → Below w2.heap.size w2 w'') := fun w' w'' R h hb => h.1.trans (below_le h.1.size hb)
      have HBd : Hid (∀ (w' : World) (R : Prop), Below w2.heap.size w2 w' ∧ R → Calls Tryz.prog 40 #[.int .i64 (w8 k), .slice (pastA (some ad) 6 c 1) (n - 6) (c - 6)] w' fun er w'' => ∃ (x : Ask) (A' : Option Addr) (n' c' : Nat) (v : Value), er = .returned (.tuple #[.agg #[.int .i64 x.corr, .int .i64 x.kind, .string x.topic, .string x.group, .int .i64 x.part, .int .i64 x.parts, .int .i64 x.first, .int .i64 x.off, .int .i64 x.most, .int .i64 x.time, .int .i64 x.bat.time, .int .i64 x.bat.prod, .int .i64 x.bat.seq, .slice A' n' c'], v]) ∧ BodyR w'.heap.size k r w'' x A' n' c' v ∧ Below w'.heap.size w' w'') := fun w' R h => body_any k _ _ _ r w' (RdB.ext HRp.out h.1) (by omega)
      go_cut [5, 6] from 44 to 69 (fun s5 s6 wx => ∃ (x : Ask) (A5 : Option Addr) (n5 c5 : Nat) (v5 : Value) (g5 : Nat), s5 = .pointer (some ⟨g5, 0, none⟩) ∧ s6 = v5 ∧ Bk wx g5 32 #[.int .i64 x.corr, .int .i64 x.kind, .string x.topic, .string x.group, .int .i64 x.part, .int .i64 x.parts, .int .i64 x.first, .int .i64 x.off, .int .i64 x.most, .int .i64 x.time, .int .i64 x.bat.time, .int .i64 x.bat.prod, .int .i64 x.bat.seq, .slice A5 n5 c5] ∧ w2.heap.size ≤ g5 ∧ (∀ ad, A5 = some ad → w2.heap.size ≤ ad.block) ∧ (∀ w', wx.grownBy w' (some g5) → RdT w' A5 n5 c5 x.bat.vals) ∧ ((v5 = .nilIface ∧ bodyA k r = .ok x) ∨ (∃ d e, d ≤ 2 ∧ IsErr d v5 e ∧ bodyA k r = .error e)) ∧ Below w2.heap.size w2 wx)
      case first =>
        go_region_held3 (fun w' => Below w2.heap.size w2 w' ∧ w'.cell? ⟨ad.block, ad.off + 1, none⟩ = some (.int .u8 (w8 k))) (first | exact FS.out _ (below_drew1 (Below.refl _ _)) | exact FS.out _ (KA.out _ _ _ (by assumption)) | exact FS.out _ (KD.out _ _ _ (by assumption)) | exact FS.out _ (KR.out _ _ _ _ (by assumption) (by first | exact Nat.le_refl _ | omega)) | exact FS.out _ (KC.out _ _ _ (by assumption) (by exact hb5))) (first | (go_at_call 40; with_reducible refine (HBd.out _ _ (by assumption)).mono ?_; rintro er w5 ⟨x, A5, n5, c5, v5, rfl, hbr, hb5⟩; have Hbr := Lib.hid hbr; clear hbr; have hI5 : ∀ G, isA _ G → isA w5 G := fun G h => h.ext hb5; have hz5 : w2.heap.size ≤ w5.heap.size := (KC.out _ _ _ (by assumption) hb5).size) | fail)
        all_goals (go_wp2_with fail; go_meet; have s5 := hb5.size; have p5 := Hbr.out.2.1; simp at s5 p5)
        · refine ⟨x, A5, n5, c5, v5, _, rfl, rfl, isA.setBk (by simp [isA_alloc]) _, by omega, fun ad e => by have := p5 ad e; omega, fun w' hg => ?_, Hbr.out.2.2, (‹Below w2.heap.size w2 _ ∧ _›).1⟩
          first
            | exact RdT.ext Hbr.out.1 (below_grown (below_row (below_new w5 _) (by simp) (Nat.le_refl _) _) (by simp [World.setRow]) hg (Nat.le_refl _))
            | exact RdT.kept (RdT.kept Hbr.out.1 (grown_row _ _ _) (fun ad e e2 => by have := p5 ad e; have := Option.some.inj e2; omega)) hg (fun ad e e2 => by have := p5 ad e; have := Option.some.inj e2; omega)
        · refine ⟨x, A5, n5, c5, v5, _, rfl, rfl, isA.setBk (by simp [isA_alloc, isA_drew, hI5]) _, by omega, fun ad e => by have := p5 ad e; omega, fun w' hg => ?_, Hbr.out.2.2, (‹Below w2.heap.size w2 _ ∧ _›).1⟩
          first
            | exact RdT.ext Hbr.out.1 (below_grown (below_row (below_new w5 _) (by simp) (Nat.le_refl _) _) (by simp [World.setRow]) hg (Nat.le_refl _))
            | exact RdT.kept (RdT.kept Hbr.out.1 (grown_row _ _ _) (fun ad e e2 => by have := p5 ad e; have := Option.some.inj e2; omega)) hg (fun ad e e2 => by have := p5 ad e; have := Option.some.inj e2; omega)
      case rest =>
        obtain ⟨x, A5, n5, c5, v5, g5, rfl, rfl, hk5, hg5, hp5, hrk, hbv, hbx⟩ := hcut
        clear FS KA KD KR KC HBd HRp
        have c5' := hk5.cell 0
        have f5' := hk5.thaw 0
        have hk7 : Bk (wc.setCell ⟨g5, 0, none⟩ (.int .i64 co)) g5 32 #[.int .i64 co, .int .i64 x.kind, .string x.topic, .string x.group, .int .i64 x.part, .int .i64 x.parts, .int .i64 x.first, .int .i64 x.off, .int .i64 x.most, .int .i64 x.time, .int .i64 x.bat.time, .int .i64 x.bat.prod, .int .i64 x.bat.seq, .slice A5 n5 c5] := hk5.put 0 (.int .i64 co)
        have HK7 := Lib.hid hk7
        have HR7 := Lib.hid (hrk _ (grown_set wc ⟨g5, 0, none⟩ (.int .i64 co)))
        have hb27 := below_grown hbx hbx.size (grown_set wc ⟨g5, 0, none⟩ (.int .i64 co)) hg5
        have HZ7 := Lib.hid (Hz2.out.ext hb27)
        have HB7 := Lib.hid (HB2.out.trans (below_le HB2.out.size hb27))
        have Hp5 := Lib.hid hp5
        clear hk7 hk5 hrk hb27 hbx hp5 e0 e1
        rcases hbv with ⟨rfl, hbo⟩ | ⟨d, e, hd, hke, hbo⟩
        · obtain ⟨r8, hr8⟩ : ∃ r8, rightA (x.num co) = r8 := ⟨_, rfl⟩
          have HRt : Hid (Calls Tryz.prog 41 #[.agg #[.int .i64 co, .int .i64 x.kind, .string x.topic, .string x.group, .int .i64 x.part, .int .i64 x.parts, .int .i64 x.first, .int .i64 x.off, .int .i64 x.most, .int .i64 x.time, .int .i64 x.bat.time, .int .i64 x.bat.prod, .int .i64 x.bat.seq, .slice A5 n5 c5]] (wc.setCell ⟨g5, 0, none⟩ (.int .i64 co)) fun er w' => er = .returned (.bool r8) ∧ Below (wc.setCell ⟨g5, 0, none⟩ (.int .i64 co)).heap.size (wc.setCell ⟨g5, 0, none⟩ (.int .i64 co)) w') := aRight_any (x.num co) A5 n5 c5 _ HR7.out r8 hr8
          have Hbo := Lib.hid hbo
          have Hr8 := Lib.hid hr8
          have l7 := ldA_bk HK7.out
          clear hbo hr8
          go_wp2_with fail
          with_reducible refine HRt.out.mono ?_
          rintro er w8' ⟨rfl, hb8⟩
          have l8 := ldA_bk (HK7.out.ext hb8)
          have HZ8 := Lib.hid (HZ7.out.ext hb8)
          have HR8 := Lib.hid (RdT.ext HR7.out hb8)
          have HB8 := Lib.hid (HB7.out.trans (below_le HB7.out.size hb8))
          clear hb8 l7 HRt c5' f5'
          cases r8
          · have hst := stA_row HZ8.out rfl co 0 ⟨#[]⟩ ⟨#[]⟩ 0 0 0 0 0 0 0 0 0 none 0 0
            go_wp2_with (first | (go_at_call 39; refine (wrap_err (.no 2) _ _ _).mono ?_; rintro er w4 ⟨v4, rfl, he4, rfl⟩) | fail)
            refine bodyPost_ret (res_ask (u := 3) rfl _ _ w.heap.size co 0 ⟨#[]⟩ ⟨#[]⟩ 0 0 0 0 0 0 0 0 0 none 0 0 rfl (Bk.row HZ8.out _)) rfl ⟨noA.num co, none, 0, 0, v4, rfl, ⟨RdT.nil _, .inr ⟨co, 2, 0, rfl, by omega, he4, ?_⟩⟩, below_row HB8.out HB8.out.size (Nat.le_refl _) _, fun ad h => by cases h⟩
            show getA6 v k c0 c1 c2 c3 r = _
            unfold getA6
            rw [if_pos Hv1.out, Hbo.out, Hco.out]
            show (if rightA (x.num co) = true then _ else _) = _
            rw [Hr8.out]
            rfl
          · have hst := stA_row HZ8.out rfl co x.kind x.topic x.group x.part x.parts x.first x.off x.most x.time x.bat.time x.bat.prod x.bat.seq A5 n5 c5
            go_wp2_with fail
            refine bodyPost_ret (res_ask (u := 3) rfl _ _ w.heap.size co x.kind x.topic x.group x.part x.parts x.first x.off x.most x.time x.bat.time x.bat.prod x.bat.seq A5 n5 c5 rfl (Bk.row HZ8.out _)) rfl ⟨x.num co, A5, n5, c5, .nilIface, rfl, ⟨RdT.kept HR8.out (grown_row _ _ _) (fun ad e e2 => ?_), .inl ⟨rfl, ?_⟩⟩, below_row HB8.out HB8.out.size (Nat.le_refl _) _, fun ad e => Nat.le_trans (Nat.le_of_lt hlt2) (Hp5.out ad e)⟩
            · have h1 := Hp5.out ad e
              have := Option.some.inj e2
              omega
            · show getA6 v k c0 c1 c2 c3 r = _
              unfold getA6
              rw [if_pos Hv1.out, Hbo.out, Hco.out]
              show (if rightA (x.num co) = true then _ else _) = _
              rw [Hr8.out]
              rfl
        · have hen := hke.ne_nil
          have heg := hke.guard 55
          have hne := hke.ne
          have hgu := hke.guardN 63
          have Hke := Lib.hid hke
          have Hbo := Lib.hid hbo
          have hst := stA_row HZ7.out rfl co 0 ⟨#[]⟩ ⟨#[]⟩ 0 0 0 0 0 0 0 0 0 none 0 0
          clear hke hbo
          go_wp2_with (first | (go_at_call 39; refine (wrap_err Hke.out _ _ _).mono ?_; rintro er w4 ⟨v4, rfl, he4, rfl⟩) | fail)
          refine bodyPost_ret (res_ask (u := 3) rfl _ _ w.heap.size co 0 ⟨#[]⟩ ⟨#[]⟩ 0 0 0 0 0 0 0 0 0 none 0 0 rfl (Bk.row HZ7.out _)) rfl ⟨noA.num co, none, 0, 0, v4, rfl, ⟨RdT.nil _, .inr ⟨co, e, d, rfl, hd, he4, ?_⟩⟩, below_row HB7.out HB7.out.size (Nat.le_refl _) _, fun ad h => by cases h⟩
          show getA6 v k c0 c1 c2 c3 r = _
          unfold getA6
          rw [if_pos Hv1.out, Hbo.out, Hco.out]
    · have hvn : (w8 v != 1) = true := by simp [hv1]
      have hst := stA_row Hz2.out rfl co 0 ⟨#[]⟩ ⟨#[]⟩ 0 0 0 0 0 0 0 0 0 none 0 0
      have Hv1 := Lib.hid hv1
      clear hv1
      go_wp2_with (first | (go_at_call 39; refine (wrap_err (.no 14) _ _ _).mono ?_; rintro er w4 ⟨v4, rfl, he4, rfl⟩) | fail)
      refine bodyPost_ret (res_ask (u := 3) rfl _ _ w.heap.size co 0 ⟨#[]⟩ ⟨#[]⟩ 0 0 0 0 0 0 0 0 0 none 0 0 rfl (Bk.row Hz2.out _)) rfl ⟨noA.num co, none, 0, 0, v4, rfl, ⟨RdT.nil _, .inr ⟨co, 14, 0, rfl, by omega, he4, ?_⟩⟩, below_row HB2.out HB2.out.size (Nat.le_refl _) _, fun ad h => by cases h⟩
      show getA6 v k c0 c1 c2 c3 r = _
      unfold getA6
      rw [if_neg Hv1.out, Hco.out]
end Go.Proofs.YtkdlofgfkfhofaaGreatDoor

/-
  ask: Get, at bytes that are an ask, at bytes that are none.
-/
namespace Go.Proofs.YtkdlofgfkfhofaaGreatDoor
open Go.RowKit

theorem aget_err (A : Option Addr) (n c : Nat) (l : List UInt8) (w : World) (hr : RdB w A n c l) (hn : n ≤ 1000000) (co e : Int) (hg : getA l = .error (co, e)) :
    Calls Tryz.prog 14 #[.slice A n c] w fun er w' => ∃ (A' : Option Addr) (n' c' : Nat) (v : Value) (d : Nat), er = .returned (.tuple #[.agg #[.int .i64 co, .int .i64 0, .string ⟨#[]⟩, .string ⟨#[]⟩, .int .i64 0, .int .i64 0, .int .i64 0, .int .i64 0, .int .i64 0, .int .i64 0, .int .i64 0, .int .i64 0, .int .i64 0, .slice A' n' c'], v]) ∧ RdT w' A' n' c' [] ∧ d ≤ 2 ∧ IsErr (d + 1) v e ∧ Below w.heap.size w w' := by
  refine (aget_any A n c l w hr hn).mono ?_
  rintro er w' ⟨x, A', n', c', v, rfl, ⟨hx, hv⟩, hb, _⟩
  rcases hv with ⟨_, h⟩ | ⟨co', e', d, rfl, hd, hke, h⟩
  · rw [hg] at h
    cases h
  · rw [hg] at h
    injection h with h
    injection h with h1 h2
    subst h1 h2
    exact ⟨A', n', c', v, d, rfl, hx, hd, hke, hb⟩
theorem aget_ok (A : Option Addr) (n c : Nat) (l : List UInt8) (w : World) (hr : RdB w A n c l) (hn : n ≤ 1000000) (x : Ask) (hg : getA l = .ok x) :
    Calls Tryz.prog 14 #[.slice A n c] w fun er w' => ∃ (A' : Option Addr) (n' c' : Nat), er = .returned (.tuple #[.agg #[.int .i64 x.corr, .int .i64 x.kind, .string x.topic, .string x.group, .int .i64 x.part, .int .i64 x.parts, .int .i64 x.first, .int .i64 x.off, .int .i64 x.most, .int .i64 x.time, .int .i64 x.bat.time, .int .i64 x.bat.prod, .int .i64 x.bat.seq, .slice A' n' c'], .nilIface]) ∧ RdT w' A' n' c' x.bat.vals ∧ Below w.heap.size w w' ∧ (∀ ad, A' = some ad → w.heap.size ≤ ad.block) := by
  refine (aget_any A n c l w hr hn).mono ?_
  rintro er w' ⟨x', A', n', c', v, rfl, ⟨hx, hv⟩, hb, hp⟩
  rcases hv with ⟨rfl, h⟩ | ⟨co', e', d, rfl, hd, hke, h⟩
  · rw [hg] at h
    injection h with h
    subst h
    exact ⟨A', n', c', rfl, hx, hb, hp⟩
  · rw [hg] at h
    cases h
end Go.Proofs.YtkdlofgfkfhofaaGreatDoor

/-
  broker: refused, read.
-/
namespace Go.Proofs.YtkdlofgfkfhofaaGreatDoor
open Go.RowKit Go.Maps

abbrev askC (co k : Int) (t s : ByteArray) (p1 p2 p3 p4 p5 p6 p7 p8 p9 : Int) (A : Option Addr) (n c : Nat) : Array Value := #[.int .i64 co, .int .i64 k, .string t, .string s, .int .i64 p1, .int .i64 p2, .int .i64 p3, .int .i64 p4, .int .i64 p5, .int .i64 p6, .int .i64 p7, .int .i64 p8, .int .i64 p9, .slice A n c]
attribute [local go_sem ↓] ldRp_eq stRp_eq
set_option maxRecDepth 100000 in
set_option maxHeartbeats 2000000 in
theorem bRefused_any (co k : Int) (t s : ByteArray) (p1 p2 p3 p4 p5 p6 p7 p8 p9 : Int) (A : Option Addr) (n c : Nat) (ev : Value) (er : Int) (w : World) (h0 : 0 ≤ co) (h1 : co ≤ 4294967295) (hk : ∀ v, Below w.heap.size w v → Calls Tryz.prog 15 #[ev] v fun e w' => e = .returned (.int .i64 er) ∧ Below v.heap.size v w') :
    Calls Tryz.prog 109 #[.agg (askC co k t s p1 p2 p3 p4 p5 p6 p7 p8 p9 A n c), ev] w fun e w' => e = .returned (.agg (rpC co er 0 0)) ∧ Below w.heap.size w w' := by
  have hmin : min co 4294967295 = co := by omega
  have hmax : max 0 co = co := by omega
  have HK := Lib.hid hk
  have hb0 := below_new w (.cells (askC co k t s p1 p2 p3 p4 p5 p6 p7 p8 p9 A n c) 32)
  have hb2 := hb0.trans (below_le hb0.size (below_new (w.alloc (.cells (askC co k t s p1 p2 p3 p4 p5 p6 p7 p8 p9 A n c) 32)) (.cells #[.int .i64 0, .int .i64 0, .int .i64 0, .int .i64 0, .slice none 0 0, .slice none 0 0] 43)))
  have hkg := Bk.made_at (w.alloc (.cells (askC co k t s p1 p2 p3 p4 p5 p6 p7 p8 p9 A n c) 32)) (w.heap.size + 1) 43 #[.int .i64 0, .int .i64 0, .int .i64 0, .int .i64 0, .slice none 0 0, .slice none 0 0] (by simp)
  have hkc := (Bk.made w 32 (askC co k t s p1 p2 p3 p4 p5 p6 p7 p8 p9 A n c)).ext (below_new (w.alloc (.cells (askC co k t s p1 p2 p3 p4 p5 p6 p7 p8 p9 A n c) 32)) (.cells #[.int .i64 0, .int .i64 0, .int .i64 0, .int .i64 0, .slice none 0 0, .slice none 0 0] 43))
  clear hk
  go_enter Tryz.func109, Tryz.ntmps109
  go_wp2_with fail
  generalize (w.alloc (.cells (askC co k t s p1 p2 p3 p4 p5 p6 p7 p8 p9 A n c) 32)).alloc (.cells #[.int .i64 0, .int .i64 0, .int .i64 0, .int .i64 0, .slice none 0 0, .slice none 0 0] 43) = w2 at hb2 hkg hkc ⊢
  generalize hG : w.heap.size + 1 = g at hkg ⊢
  generalize hGc : w.heap.size = gc at hkc ⊢
  have hne : gc ≠ g := by omega
  have HLe : Hid (w.heap.size ≤ g) := by show _ ≤ _; omega
  clear hG hGc hb0
  have HB2 := Lib.hid hb2
  have HKg := Lib.hid hkg
  have HKc := Lib.hid hkc
  clear hb2 hkg hkc
  have FS : Hid (∀ v, Below w2.heap.size w2 v → (v.cell? ⟨gc, 0, none⟩ = some (.int .i64 co) ∧ (∀ e', (stRp (.pointer (some ⟨g, 0, none⟩)) (.agg #[.int .i64 co, .int .i64 e', .int .i64 0, .int .i64 0, .slice none 0 0, .slice none 0 0])).run Tryz.prog v = .ok () (v.setRow g (rpC co e' 0 0))))) := fun v hv => ⟨(HKc.out.ext hv).cell 0, fun e' => stRp_bk rfl (HKg.out.ext hv) co e' 0 0⟩
  have FS2 : Hid (∀ v, Below w2.heap.size w2 v → ∀ row : Array Value, row.size = 6 → (fun v => v.cell? ⟨gc, 0, none⟩ = some (.int .i64 co) ∧ (∀ e', (stRp (.pointer (some ⟨g, 0, none⟩)) (.agg #[.int .i64 co, .int .i64 e', .int .i64 0, .int .i64 0, .slice none 0 0, .slice none 0 0])).run Tryz.prog v = .ok () (v.setRow g (rpC co e' 0 0)))) (v.setRow g row)) := fun v hv row hr => ⟨(Bk.row_far (HKc.out.ext hv) row hne).cell 0, fun e' => stRp_bk hr ((HKg.out.ext hv).row row) co e' 0 0⟩
  have B0 : Hid (Below w2.heap.size w2 w2.drew) := below_drew1 (Below.refl _ _)
  go_region_held3 (fun v => v.cell? ⟨gc, 0, none⟩ = some (.int .i64 co) ∧ (∀ e', (stRp (.pointer (some ⟨g, 0, none⟩)) (.agg #[.int .i64 co, .int .i64 e', .int .i64 0, .int .i64 0, .slice none 0 0, .slice none 0 0])).run Tryz.prog v = .ok () (v.setRow g (rpC co e' 0 0)))) (first | exact FS.out _ B0.out | exact FS.out _ B4.out | exact FS2.out _ B4.out _ rfl) (first | (go_at_call 15; go_loud ((with_reducible refine (HK.out _ (HB2.out.trans (below_le HB2.out.size B0.out))).mono ?_); rintro er w4 ⟨rfl, hb4⟩; have B4 := Lib.hid (B0.out.trans (below_le B0.out.size hb4)); clear hb4)) | fail)
  all_goals
    have HX := Lib.hid ((HKg.out.ext B4.out).row (rpC co er 0 0))
    have HBX := Lib.hid (below_row (HB2.out.trans (below_le HB2.out.size B4.out)) (Nat.le_trans HB2.out.size B4.out.size) HLe.out (rpC co er 0 0))
    try go_wp2_with fail
    exact bodyPost_ret (results_cell_row rfl _ _ g _ _ (0, 0) _ rfl HX.out Tryz.underlying43 rfl size_rp) rfl ⟨rfl, HBX.out⟩
end Go.Proofs.YtkdlofgfkfhofaaGreatDoor

/-
  broker: read, of one that has no topics.
-/
namespace Go.Proofs.YtkdlofgfkfhofaaGreatDoor
open Go.RowKit Go.Maps

attribute [local go_sem ↓] ldRp_eq stRp_eq ldA_eq
set_option maxRecDepth 100000 in
set_option maxHeartbeats 2000000 in
theorem bReadList_any {w : World} {b r t g s tb gr : Nat} {me ws : Value} {last : Int} {cf : CfgM} (hB : BrkAt w b r t g s tb gr me ws last cf) (co : Int) (tn gn : ByteArray) (p1 p2 p3 p4 p5 p6 p7 p8 p9 : Int) (A : Option Addr) (n c : Nat) :
    Calls Tryz.prog 110 #[.pointer (some ⟨b, 0, none⟩), .agg (askC co 6 tn gn p1 p2 p3 p4 p5 p6 p7 p8 p9 A n c)] w fun e w' => e = .returned (.agg (rpC co 0 0 0)) ∧ Below w.heap.size w w' := by
  have hb0 := below_new w (.cells (askC co 6 tn gn p1 p2 p3 p4 p5 p6 p7 p8 p9 A n c) 32)
  have hb1 := hb0.trans (below_le hb0.size (below_new (w.alloc (.cells (askC co 6 tn gn p1 p2 p3 p4 p5 p6 p7 p8 p9 A n c) 32)) (.cells #[.int .i64 0, .int .i64 0, .int .i64 0, .int .i64 0, .slice none 0 0, .slice none 0 0] 43)))
  have hb2 := hb1.trans (below_le hb1.size (below_new ((w.alloc (.cells (askC co 6 tn gn p1 p2 p3 p4 p5 p6 p7 p8 p9 A n c) 32)).alloc (.cells #[.int .i64 0, .int .i64 0, .int .i64 0, .int .i64 0, .slice none 0 0, .slice none 0 0] 43)) (.cells (rpC co 0 0 0) 43)))
  have c3 : (((w.alloc (.cells (askC co 6 tn gn p1 p2 p3 p4 p5 p6 p7 p8 p9 A n c) 32)).alloc (.cells #[.int .i64 0, .int .i64 0, .int .i64 0, .int .i64 0, .slice none 0 0, .slice none 0 0] 43)).alloc (.cells (rpC co 0 0 0) 43)).cell? ⟨b, 3, none⟩ = some (.pointer (some ⟨s, 0, none⟩)) := (hB.bk.ext hb2).cell 3
  have hke := Bk.made_at ((w.alloc (.cells (askC co 6 tn gn p1 p2 p3 p4 p5 p6 p7 p8 p9 A n c) 32)).alloc (.cells #[.int .i64 0, .int .i64 0, .int .i64 0, .int .i64 0, .slice none 0 0, .slice none 0 0] 43)) (w.heap.size + 1 + 1) 43 (rpC co 0 0 0) (by simp)
  have hkr := (Bk.made_at (w.alloc (.cells (askC co 6 tn gn p1 p2 p3 p4 p5 p6 p7 p8 p9 A n c) 32)) (w.heap.size + 1) 43 #[.int .i64 0, .int .i64 0, .int .i64 0, .int .i64 0, .slice none 0 0, .slice none 0 0] (by simp)).ext (below_new _ (.cells (rpC co 0 0 0) 43))
  have hst0 := stRp_new ((w.alloc (.cells (askC co 6 tn gn p1 p2 p3 p4 p5 p6 p7 p8 p9 A n c) 32)).alloc (.cells #[.int .i64 0, .int .i64 0, .int .i64 0, .int .i64 0, .slice none 0 0, .slice none 0 0] 43)) (w.heap.size + 1 + 1) (by simp) #[.int .i64 0, .int .i64 0, .int .i64 0, .int .i64 0, .slice none 0 0, .slice none 0 0] rfl co 0 0 0
  have HE := Lib.hid hke
  have HR := Lib.hid hkr
  have HB2 := Lib.hid hb2
  have HS := Lib.hid (hB.st.ext hb2)
  clear hb0 hb1 hb2 hke hkr hB
  go_enter Tryz.func110, Tryz.ntmps110
  go_wp2_with fail
  have HLz : Hid (w.heap.size ≤ w.heap.size + 1) := Nat.le_succ _
  generalize ((w.alloc (.cells (askC co 6 tn gn p1 p2 p3 p4 p5 p6 p7 p8 p9 A n c) 32)).alloc (.cells #[.int .i64 0, .int .i64 0, .int .i64 0, .int .i64 0, .slice none 0 0, .slice none 0 0] 43)).alloc (.cells (rpC co 0 0 0) 43) = w3 at HE HR HB2 HS ⊢
  clear c3 hst0
  have HT := Lib.hid (eTopics_any HS.out)
  with_reducible refine HT.out.mono ?_
  rintro er w4 ⟨rfl, hb4⟩
  have HB4 := Lib.hid (HB2.out.trans (below_le HB2.out.size hb4))
  have HE4 := Lib.hid (HE.out.ext hb4)
  have HR4 := Lib.hid (HR.out.ext hb4)
  have hlde := ldRp_bk HE4.out
  have hstr := stRp_bk rfl HR4.out co 0 0 0
  clear hb4 HT HB2 HE HR HS
  go_wp2_with fail
  go_loopw [23] (fun i wr => i = .int .i64 0 ∧ wr = w4) (fun _ _ => 0)
  case atStart => exact ⟨rfl, rfl⟩
  case round =>
    obtain ⟨rfl, rfl⟩ := hrel
    have HX := Lib.hid (HR4.out.row (rpC co 0 0 0))
    have HBX := Lib.hid (below_row HB4.out HB4.out.size HLz.out (rpC co 0 0 0))
    go_wp2_with fail
    exact bodyPost_ret (results_cell_row rfl _ _ (w.heap.size + 1) _ _ (0, 0) _ rfl HX.out Tryz.underlying43 rfl size_rp) rfl ⟨rfl, HBX.out⟩
set_option maxRecDepth 100000 in
set_option maxHeartbeats 2000000 in
theorem bReadNone_any {w : World} {b r t g s tb gr : Nat} {me ws : Value} {last : Int} {cf : CfgM} (hB : BrkAt w b r t g s tb gr me ws last cf) (co k : Int) (tn gn : ByteArray) (p1 p2 p3 p4 p5 p6 p7 p8 p9 : Int) (A : Option Addr) (n c : Nat) (hL : ErrLaid w) (h0 : 0 ≤ co) (h1 : co ≤ 4294967295) (hk : (k == 6) = false) (htn : tn.size ≤ maxLen) :
    Calls Tryz.prog 110 #[.pointer (some ⟨b, 0, none⟩), .agg (askC co k tn gn p1 p2 p3 p4 p5 p6 p7 p8 p9 A n c)] w fun e w' => e = .returned (.agg (rpC co 10 0 0)) ∧ Below w.heap.size w w' := by
  have hb0 := below_new w (.cells (askC co k tn gn p1 p2 p3 p4 p5 p6 p7 p8 p9 A n c) 32)
  have hb1 := hb0.trans (below_le hb0.size (below_new (w.alloc (.cells (askC co k tn gn p1 p2 p3 p4 p5 p6 p7 p8 p9 A n c) 32)) (.cells #[.int .i64 0, .int .i64 0, .int .i64 0, .int .i64 0, .slice none 0 0, .slice none 0 0] 43)))
  have hb2 := hb1.trans (below_le hb1.size (below_new ((w.alloc (.cells (askC co k tn gn p1 p2 p3 p4 p5 p6 p7 p8 p9 A n c) 32)).alloc (.cells #[.int .i64 0, .int .i64 0, .int .i64 0, .int .i64 0, .slice none 0 0, .slice none 0 0] 43)) (.cells (rpC co 0 0 0) 43)))
  have c3 : (((w.alloc (.cells (askC co k tn gn p1 p2 p3 p4 p5 p6 p7 p8 p9 A n c) 32)).alloc (.cells #[.int .i64 0, .int .i64 0, .int .i64 0, .int .i64 0, .slice none 0 0, .slice none 0 0] 43)).alloc (.cells (rpC co 0 0 0) 43)).cell? ⟨b, 3, none⟩ = some (.pointer (some ⟨s, 0, none⟩)) := (hB.bk.ext hb2).cell 3
  have hkr := (Bk.made_at (w.alloc (.cells (askC co k tn gn p1 p2 p3 p4 p5 p6 p7 p8 p9 A n c) 32)) (w.heap.size + 1) 43 #[.int .i64 0, .int .i64 0, .int .i64 0, .int .i64 0, .slice none 0 0, .slice none 0 0] (by simp)).ext (below_new _ (.cells (rpC co 0 0 0) 43))
  have hst0 := stRp_new ((w.alloc (.cells (askC co k tn gn p1 p2 p3 p4 p5 p6 p7 p8 p9 A n c) 32)).alloc (.cells #[.int .i64 0, .int .i64 0, .int .i64 0, .int .i64 0, .slice none 0 0, .slice none 0 0] 43)) (w.heap.size + 1 + 1) (by simp) #[.int .i64 0, .int .i64 0, .int .i64 0, .int .i64 0, .slice none 0 0, .slice none 0 0] rfl co 0 0 0
  have hka := ((Bk.made w 32 (askC co k tn gn p1 p2 p3 p4 p5 p6 p7 p8 p9 A n c)).ext (below_new _ (.cells #[.int .i64 0, .int .i64 0, .int .i64 0, .int .i64 0, .slice none 0 0, .slice none 0 0] 43))).ext (below_new _ (.cells (rpC co 0 0 0) 43))
  have HR := Lib.hid hkr
  have HA := Lib.hid hka
  have HKb := Lib.hid (hB.bk.ext hb2)
  have HB2 := Lib.hid hb2
  have HS := Lib.hid (hB.st.ext hb2)
  have HLa := Lib.hid (hL.below hb2)
  have HLz : Hid (w.heap.size ≤ w.heap.size + 1) := Nat.le_succ _
  have HTn := Lib.hid htn
  clear hb0 hb1 hb2 hkr hka hB hL htn
  go_enter Tryz.func110, Tryz.ntmps110
  go_wp2_with fail
  generalize ((w.alloc (.cells (askC co k tn gn p1 p2 p3 p4 p5 p6 p7 p8 p9 A n c) 32)).alloc (.cells #[.int .i64 0, .int .i64 0, .int .i64 0, .int .i64 0, .slice none 0 0, .slice none 0 0] 43)).alloc (.cells (rpC co 0 0 0) 43) = w3 at HA HR HB2 HS HLa HKb ⊢
  clear c3 hst0
  have FS : Hid (∀ v, Below w3.heap.size w3 v → (v.cell? ⟨b, 3, none⟩ = some (.pointer (some ⟨s, 0, none⟩)) ∧ v.cell? ⟨w.heap.size, 2, none⟩ = some (.string tn) ∧ v.cell? ⟨w.heap.size, 4, none⟩ = some (.int .i64 p1))) := fun v hv => ⟨(HKb.out.ext hv).cell 3, (HA.out.ext hv).cell 2, (HA.out.ext hv).cell 4⟩
  have B0 : Hid (Below w3.heap.size w3 w3.drew) := below_drew1 (Below.refl _ _)
  have HT := Lib.hid (eLog_any (HS.out.ext B0.out) tn HTn.out p1)
  go_region_held3 (fun v => v.cell? ⟨b, 3, none⟩ = some (.pointer (some ⟨s, 0, none⟩)) ∧ v.cell? ⟨w.heap.size, 2, none⟩ = some (.string tn) ∧ v.cell? ⟨w.heap.size, 4, none⟩ = some (.int .i64 p1)) (first | exact FS.out _ B0.out | fail) (first | (go_at_call 163; go_loud ((with_reducible refine HT.out.mono ?_); rintro er w4 ⟨rfl, rfl⟩)) | fail)
  have HA4 := Lib.hid (HA.out.ext B0.out)
  have HR4 := Lib.hid (HR.out.ext B0.out)
  have HL4 := Lib.hid (HLa.out.below B0.out)
  have HB4 := Lib.hid (HB2.out.trans (below_le HB2.out.size B0.out))
  generalize w3.drew = w4 at HA4 HR4 HL4 HB4 ⊢
  have hlda := ldA_bk HA4.out
  have HRf := Lib.hid (bRefused_any co k tn gn p1 p2 p3 p4 p5 p6 p7 p8 p9 A n c (.iface 40 (.int .i64 10)) 10 w4 h0 h1 (fun v hv => kind_errno 10 v (HL4.out.below hv)))
  clear HT FS B0 HA HR HLa HB2 HS HKb
  go_wp2_with fail
  with_reducible refine HRf.out.mono ?_
  rintro er w5 ⟨rfl, hb5⟩
  have HR5 := Lib.hid (HR4.out.ext hb5)
  have HB5 := Lib.hid (HB4.out.trans (below_le HB4.out.size hb5))
  have hstr := stRp_bk rfl HR5.out co 10 0 0
  have HX := Lib.hid (HR5.out.row (rpC co 10 0 0))
  have HBX := Lib.hid (below_row HB5.out HB5.out.size HLz.out (rpC co 10 0 0))
  clear hb5 hlda
  go_wp2_with fail
  exact bodyPost_ret (results_cell_row rfl _ _ (w.heap.size + 1) _ _ (0, 0) _ rfl HX.out Tryz.underlying43 rfl size_rp) rfl ⟨rfl, HBX.out⟩
end Go.Proofs.YtkdlofgfkfhofaaGreatDoor
