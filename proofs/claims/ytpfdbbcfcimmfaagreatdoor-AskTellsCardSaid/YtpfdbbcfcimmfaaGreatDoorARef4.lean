/-
  staveref19: GetAsk.
-/
import Derived.Test.YtpfdbbcfcimmfaaGreatDoorARef2
import Derived.Test.YtpfdbbcfcimmfaaGreatDoorRGetP
import Derived.Test.YtpfdbbcfcimmfaaGreatDoorAsk
namespace Go.Proofs.YtpfdbbcfcimmfaaGreatDoor
open Go.RowKit
attribute [local go_sem ↓] ldB_eq stB_eq ldE_eq stE_eq ldA_eq stA_eq sliced_past
attribute [local go_sem] w8_nn w8_256 wrap_i64_w8 wrap64_w8 pastA_zero

theorem four_big (v k c0 c1 c2 c3 : UInt8) (r : List UInt8) : (leN (((v :: k :: c0 :: c1 :: c2 :: c3 :: r).take 6).drop 2) : Int) = corr4 c0 c1 c2 c3 := by
  show ((c0.toNat + 256 * (c1.toNat + 256 * (c2.toNat + 256 * (c3.toNat + 256 * 0))) : Nat) : Int) = _
  unfold corr4 w8
  omega
/-- what GetAsk hands back -/
def RGetA (l : List UInt8) (w' : World) (x : Ask) (A : Option Addr) (n c : Nat) (e : Int) : Prop :=
  RdT w' A n c x.bat.vals ∧ ((e = 0 ∧ getA l = .ok x) ∨ ∃ co, x = noA.num co ∧ e ≠ 0 ∧ getA l = .error (co, e))
set_option maxRecDepth 100000 in
set_option maxHeartbeats 4000000 in
theorem refGetA_any (A : Option Addr) (n c : Nat) (l : List UInt8) (w : World) (hr : RdB w A n c l) (hnb : n ≤ 1000000) :
    Calls Tryz.prog 33 #[.slice A n c] w fun er w' => ∃ (x : Ask) (A' : Option Addr) (n' c' : Nat) (e : Int), er = .returned (.tuple #[.agg #[.int .i64 x.corr, .int .i64 x.kind, .string x.topic, .string x.group, .int .i64 x.part, .int .i64 x.parts, .int .i64 x.first, .int .i64 x.off, .int .i64 x.most, .int .i64 x.time, .int .i64 x.bat.time, .int .i64 x.bat.prod, .int .i64 x.bat.seq, .slice A' n' c'], .int .i64 e]) ∧ RGetA l w' x A' n' c' e ∧ Below w.heap.size w w' := by
  have hz := Bk.made w 47 #[.int .i64 0, .int .i64 0, .string ⟨#[]⟩, .string ⟨#[]⟩, .int .i64 0, .int .i64 0, .int .i64 0, .int .i64 0, .int .i64 0, .int .i64 0, .int .i64 0, .int .i64 0, .int .i64 0, .slice none 0 0]
  have hbn := below_new w (.cells #[.int .i64 0, .int .i64 0, .string ⟨#[]⟩, .string ⟨#[]⟩, .int .i64 0, .int .i64 0, .int .i64 0, .int .i64 0, .int .i64 0, .int .i64 0, .int .i64 0, .int .i64 0, .int .i64 0, .slice none 0 0] 47)
  have Hz := Lib.hid hz
  have HB := Lib.hid hbn
  have HR := Lib.hid (hr.ext hbn)
  have hlen := hr.len
  by_cases h6 : n < 6
  · have h6' : (n : Int) < 6 := by omega
    have hst := stA_row hz rfl 0 0 ⟨#[]⟩ ⟨#[]⟩ 0 0 0 0 0 0 0 0 0 none 0 0
    clear hz hbn hr
    go_enter Tryz.func33, Tryz.ntmps33
    go_wp2_with fail
    exact bodyPost_ret (res_ask (u := 3) rfl _ _ w.heap.size 0 0 ⟨#[]⟩ ⟨#[]⟩ 0 0 0 0 0 0 0 0 0 none 0 0 rfl (Bk.row Hz.out _)) rfl ⟨noA, none, 0, 0, 3, rfl, ⟨RdT.nil _, .inr ⟨0, rfl, by decide, getA_short (by rw [hlen]; exact h6)⟩⟩, below_row HB.out HB.out.size (Nat.le_refl _) _⟩
  · have h6' : ¬ (n : Int) < 6 := by omega
    have hcap := hr.cap
    obtain ⟨ad, v, k, c0, c1, c2, c3, r, rfl, rfl, hadw, d0, d1, d2, d3, d4, d5⟩ := six_bytes HR.out (by omega)
    rw [add_pos' _ _ (by omega)] at d1
    rw [show ad.add 0 = ad by unfold Addr.add; simp] at d0
    clear d2 d3 d4 d5
    have hn6 : (6 : Int) ≤ (n : Int) := by omega
    have hc6 : (6 : Int) ≤ (c : Int) := by omega
    have hnc : (n : Int) ≤ (c : Int) := by omega
    have hi0 : (0 : Int) < (n : Int) := by omega
    have hi1 : (1 : Int) < (n : Int) := by omega
    obtain ⟨co, hco⟩ : ∃ co, corr4 c0 c1 c2 c3 = co := ⟨_, rfl⟩
    have hcb : 0 ≤ co ∧ co ≤ 4294967295 := by rw [← hco]; exact (corr4_bytes c0 c1 c2 c3).1
    have hcw : IntKind.i64.wrap co = co := by rw [IntKind.wrap_i64]; omega
    have hcw' : wrap64 co = co := IntWalk.wrap64_in _ ⟨by omega, by omega⟩
    have HBig : Hid (Calls Tryz.prog 62 #[.slice (pastA (some ad) 2 c 1) 4 (c - 2)] (w.alloc (.cells #[.int .i64 0, .int .i64 0, .string ⟨#[]⟩, .string ⟨#[]⟩, .int .i64 0, .int .i64 0, .int .i64 0, .int .i64 0, .int .i64 0, .int .i64 0, .int .i64 0, .int .i64 0, .int .i64 0, .slice none 0 0] 47)) fun e w' => e = .returned (.int .u64 co) ∧ w.alloc (.cells #[.int .i64 0, .int .i64 0, .string ⟨#[]⟩, .string ⟨#[]⟩, .int .i64 0, .int .i64 0, .int .i64 0, .int .i64 0, .int .i64 0, .int .i64 0, .int .i64 0, .int .i64 0, .int .i64 0, .slice none 0 0] 47) = w') := by
      have h := refBig_any _ _ _ _ _ ((HR.out.upto 6 (by omega)).past' 2 (by omega)) (by omega)
      rw [four_big, hco] at h
      exact h
    have Hco := Lib.hid hco
    have Hlen := Lib.hid hlen
    have Hcb := Lib.hid hcb
    clear hz hbn hr hlen hco hcb h6
    go_enter Tryz.func33, Tryz.ntmps33
    go_wp2_with fail
    with_reducible refine HBig.out.mono ?_
    rintro er w1 ⟨rfl, rfl⟩
    clear HBig
    have hstn := stA_newAt (w.alloc (.cells #[.int .i64 0, .int .i64 0, .string ⟨#[]⟩, .string ⟨#[]⟩, .int .i64 0, .int .i64 0, .int .i64 0, .int .i64 0, .int .i64 0, .int .i64 0, .int .i64 0, .int .i64 0, .int .i64 0, .slice none 0 0] 47)) (w.alloc (.cells #[.int .i64 0, .int .i64 0, .string ⟨#[]⟩, .string ⟨#[]⟩, .int .i64 0, .int .i64 0, .int .i64 0, .int .i64 0, .int .i64 0, .int .i64 0, .int .i64 0, .int .i64 0, .int .i64 0, .slice none 0 0] 47)).heap.size rfl co 0 ⟨#[]⟩ ⟨#[]⟩ 0 0 0 0 0 0 0 0 0 none 0 0 #[.int .i64 0, .int .i64 0, .string ⟨#[]⟩, .string ⟨#[]⟩, .int .i64 0, .int .i64 0, .int .i64 0, .int .i64 0, .int .i64 0, .int .i64 0, .int .i64 0, .int .i64 0, .int .i64 0, .slice none 0 0] rfl
    have hstn' := stA_newAt (w.alloc (.cells #[.int .i64 0, .int .i64 0, .string ⟨#[]⟩, .string ⟨#[]⟩, .int .i64 0, .int .i64 0, .int .i64 0, .int .i64 0, .int .i64 0, .int .i64 0, .int .i64 0, .int .i64 0, .int .i64 0, .slice none 0 0] 47)) (w.heap.size + 1) (by simp) co 0 ⟨#[]⟩ ⟨#[]⟩ 0 0 0 0 0 0 0 0 0 none 0 0 #[.int .i64 0, .int .i64 0, .string ⟨#[]⟩, .string ⟨#[]⟩, .int .i64 0, .int .i64 0, .int .i64 0, .int .i64 0, .int .i64 0, .int .i64 0, .int .i64 0, .int .i64 0, .int .i64 0, .slice none 0 0] rfl
    have hbn2 := below_new (w.alloc (.cells #[.int .i64 0, .int .i64 0, .string ⟨#[]⟩, .string ⟨#[]⟩, .int .i64 0, .int .i64 0, .int .i64 0, .int .i64 0, .int .i64 0, .int .i64 0, .int .i64 0, .int .i64 0, .int .i64 0, .slice none 0 0] 47)) (.cells #[.int .i64 co, .int .i64 0, .string ⟨#[]⟩, .string ⟨#[]⟩, .int .i64 0, .int .i64 0, .int .i64 0, .int .i64 0, .int .i64 0, .int .i64 0, .int .i64 0, .int .i64 0, .int .i64 0, .slice none 0 0] 47)
    have HN2 := Lib.hid (Bk.made_at (w.alloc (.cells #[.int .i64 0, .int .i64 0, .string ⟨#[]⟩, .string ⟨#[]⟩, .int .i64 0, .int .i64 0, .int .i64 0, .int .i64 0, .int .i64 0, .int .i64 0, .int .i64 0, .int .i64 0, .int .i64 0, .slice none 0 0] 47)) (w.heap.size + 1) 47 #[.int .i64 co, .int .i64 0, .string ⟨#[]⟩, .string ⟨#[]⟩, .int .i64 0, .int .i64 0, .int .i64 0, .int .i64 0, .int .i64 0, .int .i64 0, .int .i64 0, .int .i64 0, .int .i64 0, .slice none 0 0] (by simp))
    have HZ2 := Lib.hid (Hz.out.ext hbn2)
    have HR2 := Lib.hid (HR.out.ext hbn2)
    have HB2 := Lib.hid (HB.out.trans (below_le HB.out.size hbn2))
    have e0 : ((w.alloc (.cells #[.int .i64 0, .int .i64 0, .string ⟨#[]⟩, .string ⟨#[]⟩, .int .i64 0, .int .i64 0, .int .i64 0, .int .i64 0, .int .i64 0, .int .i64 0, .int .i64 0, .int .i64 0, .int .i64 0, .slice none 0 0] 47)).alloc (.cells #[.int .i64 co, .int .i64 0, .string ⟨#[]⟩, .string ⟨#[]⟩, .int .i64 0, .int .i64 0, .int .i64 0, .int .i64 0, .int .i64 0, .int .i64 0, .int .i64 0, .int .i64 0, .int .i64 0, .slice none 0 0] 47)).cell? ad = some (.int .u8 (w8 v)) := (hbn2.cell hadw).trans d0
    have e1 : ((w.alloc (.cells #[.int .i64 0, .int .i64 0, .string ⟨#[]⟩, .string ⟨#[]⟩, .int .i64 0, .int .i64 0, .int .i64 0, .int .i64 0, .int .i64 0, .int .i64 0, .int .i64 0, .int .i64 0, .int .i64 0, .slice none 0 0] 47)).alloc (.cells #[.int .i64 co, .int .i64 0, .string ⟨#[]⟩, .string ⟨#[]⟩, .int .i64 0, .int .i64 0, .int .i64 0, .int .i64 0, .int .i64 0, .int .i64 0, .int .i64 0, .int .i64 0, .int .i64 0, .slice none 0 0] 47)).cell? ⟨ad.block, ad.off + 1, none⟩ = some (.int .u8 (w8 k)) := (hbn2.cell (p := ⟨ad.block, ad.off + 1, none⟩) hadw).trans d1
    have HGn := Lib.hid (show w.heap.size + 1 < ((w.alloc (.cells #[.int .i64 0, .int .i64 0, .string ⟨#[]⟩, .string ⟨#[]⟩, .int .i64 0, .int .i64 0, .int .i64 0, .int .i64 0, .int .i64 0, .int .i64 0, .int .i64 0, .int .i64 0, .int .i64 0, .slice none 0 0] 47)).alloc (.cells #[.int .i64 co, .int .i64 0, .string ⟨#[]⟩, .string ⟨#[]⟩, .int .i64 0, .int .i64 0, .int .i64 0, .int .i64 0, .int .i64 0, .int .i64 0, .int .i64 0, .int .i64 0, .int .i64 0, .slice none 0 0] 47)).heap.size by simp)
    go_upto_region 5 with fail
    clear hstn hstn' hbn2 d0 d1 hadw Hz HR HB hcw hcw'
    generalize w.heap.size + 1 = gn at HN2 HGn ⊢
    generalize (w.alloc (.cells #[.int .i64 0, .int .i64 0, .string ⟨#[]⟩, .string ⟨#[]⟩, .int .i64 0, .int .i64 0, .int .i64 0, .int .i64 0, .int .i64 0, .int .i64 0, .int .i64 0, .int .i64 0, .int .i64 0, .slice none 0 0] 47)).alloc (.cells #[.int .i64 co, .int .i64 0, .string ⟨#[]⟩, .string ⟨#[]⟩, .int .i64 0, .int .i64 0, .int .i64 0, .int .i64 0, .int .i64 0, .int .i64 0, .int .i64 0, .int .i64 0, .int .i64 0, .slice none 0 0] 47) = w2 at HN2 HZ2 HR2 HB2 HGn e0 e1 ⊢
    by_cases hv1 : w8 v = 1
    case' neg =>
      have hvn : (w8 v != 1) = true := by rw [bne_iff_ne]; exact hv1
      have Hv1 := Lib.hid hv1
      have n2 := ldA_bk HN2.out
      have hst := stA_row HZ2.out rfl co 0 ⟨#[]⟩ ⟨#[]⟩ 0 0 0 0 0 0 0 0 0 none 0 0
      clear hv1
      go_wp2_with fail
      exact bodyPost_ret (res_ask (u := 3) rfl _ _ w.heap.size co 0 ⟨#[]⟩ ⟨#[]⟩ 0 0 0 0 0 0 0 0 0 none 0 0 rfl (Bk.row HZ2.out _)) rfl ⟨noA.num co, none, 0, 0, 14, rfl, ⟨RdT.nil _, .inr ⟨co, rfl, by decide, (by show getA6 v k c0 c1 c2 c3 r = _; unfold getA6; rw [if_neg Hv1.out, Hco.out])⟩⟩, below_row HB2.out HB2.out.size (Nat.le_refl _) _⟩
    case' pos =>
      have hvn : (w8 v != 1) = false := by simp [hv1]
      have Hv1 := Lib.hid hv1
      have HF := Lib.hid (refAFlds_any (w8 k) w2)
      clear hv1
      go_wp2_with fail
      with_reducible refine HF.out.mono ?_
      rintro er w3 ⟨A3, n3, c3', rfl, hrf, hn3, hA3, hb3⟩
      have hq := fun (w : World) => eq_nil_slice w A3 n3 c3' 0 0
      have HZ3 := Lib.hid (HZ2.out.ext hb3)
      have HN3 := Lib.hid (HN2.out.ext hb3)
      have HR3 := Lib.hid (HR2.out.ext hb3)
      have HB3 := Lib.hid (HB2.out.trans (below_le HB2.out.size hb3))
      have HG3 := Lib.hid (Nat.lt_of_lt_of_le HGn.out hb3.size)
      have Hrf := Lib.hid hrf
      have Hn3 := Lib.hid hn3
      clear hrf hn3 hb3 HF HZ2 HN2 HR2 HB2 HGn e0 e1 hvn
      by_cases hkd : 1 ≤ w8 k ∧ w8 k ≤ 9
      case' neg =>
        have hnn : A3.isNone = true := by
          rw [decide_eq_false hkd] at hA3
          cases A3 with
          | none => rfl
          | some a => cases hA3
        rw [hnn] at hq
        have hbo : Hid (bodyA k r = .error 2) := by
          show bodyA k r = .error 2
          unfold bodyA
          rw [if_neg (fun h => hkd (by have := writ_iff.1 h; omega)), if_neg (fun h => hkd (by have := read_iff.1 h; omega))]
        have n3' := ldA_bk HN3.out
        have hst := stA_row HZ3.out rfl co 0 ⟨#[]⟩ ⟨#[]⟩ 0 0 0 0 0 0 0 0 0 none 0 0
        clear hkd hA3 hnn
        go_wp2_with fail
        exact bodyPost_ret (res_ask (u := 3) rfl _ _ w.heap.size co 0 ⟨#[]⟩ ⟨#[]⟩ 0 0 0 0 0 0 0 0 0 none 0 0 rfl (Bk.row HZ3.out _)) rfl ⟨noA.num co, none, 0, 0, 2, rfl, ⟨RdT.nil _, .inr ⟨co, rfl, by decide, (by show getA6 v k c0 c1 c2 c3 r = _; unfold getA6; rw [if_pos Hv1.out, hbo.out, Hco.out])⟩⟩, below_row HB3.out HB3.out.size (Nat.le_refl _) _⟩
      case' pos =>
        have hnn : A3.isNone = false := by
          rw [decide_eq_true hkd] at hA3
          cases A3 with
          | none => cases hA3
          | some a => rfl
        rw [hnn] at hq
        have Hkd := Lib.hid hkd
        have hbn4 := below_new w3 (.cells #[.int .i64 0, .int .i64 0, .string ⟨#[]⟩, .string ⟨#[]⟩, .int .i64 0, .int .i64 0, .int .i64 0, .int .i64 0, .int .i64 0, .int .i64 0, .int .i64 0, .int .i64 0, .int .i64 0, .slice none 0 0] 47)
        have HK4 := Lib.hid (Bk.made w3 47 #[.int .i64 0, .int .i64 0, .string ⟨#[]⟩, .string ⟨#[]⟩, .int .i64 0, .int .i64 0, .int .i64 0, .int .i64 0, .int .i64 0, .int .i64 0, .int .i64 0, .int .i64 0, .int .i64 0, .slice none 0 0])
        have HZ4 := Lib.hid (HZ3.out.ext hbn4)
        have HN4 := Lib.hid (HN3.out.ext hbn4)
        have HR4 := Lib.hid (HR3.out.ext hbn4)
        have Hrf4 := Lib.hid (Hrf.out.ext hbn4)
        have HB4 := Lib.hid (HB3.out.trans (below_le HB3.out.size hbn4))
        have HGa := Lib.hid (Nat.lt_of_lt_of_le (HZ3.out.lt) (Nat.le_refl w3.heap.size))
        have HS4 := Lib.hid (show w3.heap.size < (w3.alloc (.cells #[.int .i64 0, .int .i64 0, .string ⟨#[]⟩, .string ⟨#[]⟩, .int .i64 0, .int .i64 0, .int .i64 0, .int .i64 0, .int .i64 0, .int .i64 0, .int .i64 0, .int .i64 0, .int .i64 0, .slice none 0 0] 47)).heap.size by simp)
        have HW := Lib.hid (refWrites_any (w8 k) (w3.alloc (.cells #[.int .i64 0, .int .i64 0, .string ⟨#[]⟩, .string ⟨#[]⟩, .int .i64 0, .int .i64 0, .int .i64 0, .int .i64 0, .int .i64 0, .int .i64 0, .int .i64 0, .int .i64 0, .int .i64 0, .slice none 0 0] 47)))
        have HGn := HG3
        clear hkd hA3 hnn hbn4 HZ3 HN3 HR3 Hrf HB3 HG3
        go_wp2_with fail
        generalize w3.alloc (.cells #[.int .i64 0, .int .i64 0, .string ⟨#[]⟩, .string ⟨#[]⟩, .int .i64 0, .int .i64 0, .int .i64 0, .int .i64 0, .int .i64 0, .int .i64 0, .int .i64 0, .int .i64 0, .int .i64 0, .slice none 0 0] 47) = w4 at HK4 HZ4 HN4 HR4 Hrf4 HB4 HS4 HW ⊢
        generalize w3.heap.size = ga at HK4 HGa HGn HS4 ⊢
        with_reducible refine HW.out.mono ?_
        rintro er w5 ⟨rfl, rfl⟩
        clear HW hq
        have hrp := HR4.out.past' 6 (by omega)
        have HRp := Lib.hid (show RdB w4 (pastA (some ad) 6 c 1) (n - 6) (c - 6) r from hrp)
        clear hrp
        cases hw : writK (w8 k)
        · have hrk : readK (w8 k) = true := read_iff.2 (by
            have h2 := Hkd.out
            have h1 : ¬ (1 ≤ w8 k ∧ w8 k ≤ 5) := fun h => by rw [writ_iff.2 h] at hw; cases hw
            omega)
          have HRk := Lib.hid hrk
          have hrf4 := Hrf4.out
          rw [fldsQ_r hw] at hrf4
          have HG := Lib.hid (refGet_any A3 n3 c3' (fldsA (w8 k)) _ _ _ r w4 (fldsA_some _) hrf4 HRp.out Hn3.out (by omega))
          have Hw := Lib.hid hw
          clear hrk hrf4 hw
          go_wp2_with fail
          with_reducible refine HG.out.mono ?_
          rintro er w5 ⟨A6, n6, c6, e6, i6, rfl, hgr, hb5⟩
          have HK5 := Lib.hid (HK4.out.ext hb5)
          have HZ5 := Lib.hid (HZ4.out.ext hb5)
          have HN5 := Lib.hid (HN4.out.ext hb5)
          have HB5 := Lib.hid (HB4.out.trans (below_le HB4.out.size hb5))
          have HS5 := Lib.hid (Nat.lt_of_lt_of_le HS4.out hb5.size)
          clear hb5 HG HK4 HZ4 HN4 HB4 HR4 Hrf4 HRp
          rcases hgr with ⟨rfl, ms, hrv, hga, _⟩ | ⟨hke, hga⟩
          · have hok := (getAll_inv _ _ _ (good_A _) hga).1
            have HM := Lib.hid (refAmade_any (w8 k) HRk.out A6 n6 c6 ms w5 hrv hok)
            have Hbo' : Hid (bodyA k r = .ok (madeA (w8 k) (vsOf ms))) := by
              show bodyA k r = _
              unfold bodyA
              rw [if_neg (by rw [Hw.out]; decide), if_pos HRk.out, hga]
            clear hrv hga hok
            go_wp2_with fail
            with_reducible refine HM.out.mono ?_
            rintro er w6 ⟨x, rfl, hx, hxv, hb6⟩
            have hrow := stA_row (HK5.out.ext hb6) rfl x.corr x.kind x.topic x.group x.part x.parts x.first x.off x.most x.time x.bat.time x.bat.prod x.bat.seq none 0 0
            have HKa : Hid (Bk (w6.setRow ga #[.int .i64 x.corr, .int .i64 x.kind, .string x.topic, .string x.group, .int .i64 x.part, .int .i64 x.parts, .int .i64 x.first, .int .i64 x.off, .int .i64 x.most, .int .i64 x.time, .int .i64 x.bat.time, .int .i64 x.bat.prod, .int .i64 x.bat.seq, .slice none 0 0]) ga 47 #[.int .i64 x.corr, .int .i64 x.kind, .string x.topic, .string x.group, .int .i64 x.part, .int .i64 x.parts, .int .i64 x.first, .int .i64 x.off, .int .i64 x.most, .int .i64 x.time, .int .i64 x.bat.time, .int .i64 x.bat.prod, .int .i64 x.bat.seq, .slice none 0 0]) := Bk.row (HK5.out.ext hb6) _
            have hgr6 := grown_row w6 ga #[.int .i64 x.corr, .int .i64 x.kind, .string x.topic, .string x.group, .int .i64 x.part, .int .i64 x.parts, .int .i64 x.first, .int .i64 x.off, .int .i64 x.most, .int .i64 x.time, .int .i64 x.bat.time, .int .i64 x.bat.prod, .int .i64 x.bat.seq, .slice none 0 0]
            have HRx : Hid (RdT (w6.setRow ga #[.int .i64 x.corr, .int .i64 x.kind, .string x.topic, .string x.group, .int .i64 x.part, .int .i64 x.parts, .int .i64 x.first, .int .i64 x.off, .int .i64 x.most, .int .i64 x.time, .int .i64 x.bat.time, .int .i64 x.bat.prod, .int .i64 x.bat.seq, .slice none 0 0]) none 0 0 x.bat.vals) := by rw [hxv]; exact RdT.nil _
            have HPx : Hid (∀ a : Addr, (none : Option Addr) = some a → ga < a.block) := fun a h => by cases h
            have HZe := Lib.hid ((HZ5.out.ext hb6).grown hgr6 (fun e => by have := Option.some.inj e; have := HGa.out; omega))
            have HNe := Lib.hid ((HN5.out.ext hb6).grown hgr6 (fun e => by have := Option.some.inj e; have := HGn.out; omega))
            have hB6 := HB5.out.trans (below_le HB5.out.size hb6)
            have HBe := Lib.hid (below_row hB6 hB6.size (Nat.le_of_lt HGa.out) #[.int .i64 x.corr, .int .i64 x.kind, .string x.topic, .string x.group, .int .i64 x.part, .int .i64 x.parts, .int .i64 x.first, .int .i64 x.off, .int .i64 x.most, .int .i64 x.time, .int .i64 x.bat.time, .int .i64 x.bat.prod, .int .i64 x.bat.seq, .slice none 0 0])
            have Hbo := Hbo'.out
            rw [← hx] at Hbo
            have Hbo := Lib.hid Hbo
            clear hb6 hgr6 HM HK5 HZ5 HN5 HB5 Hbo' hx hxv hB6
            go_upto_region 21 with fail
            clear hrow
            generalize w6.setRow ga #[.int .i64 x.corr, .int .i64 x.kind, .string x.topic, .string x.group, .int .i64 x.part, .int .i64 x.parts, .int .i64 x.first, .int .i64 x.off, .int .i64 x.most, .int .i64 x.time, .int .i64 x.bat.time, .int .i64 x.bat.prod, .int .i64 x.bat.seq, .slice none 0 0] = wE at HKa HRx HZe HNe HBe ⊢
            obtain ⟨A5, n5, c5, hA5, hn5, hc5⟩ : ∃ (A5 : Option Addr) (n5 c5 : Nat), A5 = none ∧ n5 = 0 ∧ c5 = 0 := ⟨none, 0, 0, rfl, rfl, rfl⟩
            have HKa : Hid (Bk wE ga 47 #[.int .i64 x.corr, .int .i64 x.kind, .string x.topic, .string x.group, .int .i64 x.part, .int .i64 x.parts, .int .i64 x.first, .int .i64 x.off, .int .i64 x.most, .int .i64 x.time, .int .i64 x.bat.time, .int .i64 x.bat.prod, .int .i64 x.bat.seq, .slice A5 n5 c5]) := by rw [hA5, hn5, hc5]; exact HKa.out
            have HRx : Hid (RdT wE A5 n5 c5 x.bat.vals) := by rw [hA5, hn5, hc5]; exact HRx.out
            have HPx : Hid (∀ a : Addr, A5 = some a → ga < a.block) := by rw [hA5]; exact HPx.out
            clear hA5 hn5 hc5
            have hk7 : Bk (wE.setCell ⟨ga, 0, none⟩ (.int .i64 co)) ga 47 #[.int .i64 co, .int .i64 x.kind, .string x.topic, .string x.group, .int .i64 x.part, .int .i64 x.parts, .int .i64 x.first, .int .i64 x.off, .int .i64 x.most, .int .i64 x.time, .int .i64 x.bat.time, .int .i64 x.bat.prod, .int .i64 x.bat.seq, .slice A5 n5 c5] := HKa.out.put 0 (.int .i64 co)
            have hg7 := grown_set wE ⟨ga, 0, none⟩ (.int .i64 co)
            have HK7 := Lib.hid hk7
            have HR7 := Lib.hid (RdT.kept HRx.out hg7 (fun ad e e2 => by have h1 := HPx.out ad e; have h2 : ga = ad.block := Option.some.inj e2; omega))
            have HZ7 := Lib.hid (HZe.out.grown hg7 (fun e => by have h1 : w.heap.size = ga := Option.some.inj e; have h2 := HGa.out; omega))
            have HN7 := Lib.hid (HNe.out.grown hg7 (fun e => by have h1 : gn = ga := Option.some.inj e; have h2 := HGn.out; omega))
            have HB7 := Lib.hid (below_grown HBe.out HBe.out.size hg7 (Nat.le_of_lt HGa.out))
            have ca := HKa.out.cell 0
            have fa := HKa.out.thaw 0
            obtain ⟨r8, hr8⟩ : ∃ r8, rightA (x.num co) = r8 := ⟨_, rfl⟩
            have HRt : Hid (Calls Tryz.prog 27 #[.agg #[.int .i64 co, .int .i64 x.kind, .string x.topic, .string x.group, .int .i64 x.part, .int .i64 x.parts, .int .i64 x.first, .int .i64 x.off, .int .i64 x.most, .int .i64 x.time, .int .i64 x.bat.time, .int .i64 x.bat.prod, .int .i64 x.bat.seq, .slice A5 n5 c5]] (wE.setCell ⟨ga, 0, none⟩ (.int .i64 co)) fun er w' => er = .returned (.bool r8) ∧ Below (wE.setCell ⟨ga, 0, none⟩ (.int .i64 co)).heap.size (wE.setCell ⟨ga, 0, none⟩ (.int .i64 co)) w') := refRightA_any (x.num co) A5 n5 c5 _ HR7.out r8 hr8
            have Hr8 := Lib.hid hr8
            have l7 := ldA_bk HK7.out
            clear hk7 hg7 hr8
            go_wp2_with fail
            with_reducible refine HRt.out.mono ?_
            rintro er w8' ⟨rfl, hb8⟩
            have l8 := ldA_bk (HK7.out.ext hb8)
            have n8 := ldA_bk (HN7.out.ext hb8)
            have HZ8 := Lib.hid (HZ7.out.ext hb8)
            have HR8 := Lib.hid (RdT.ext HR7.out hb8)
            have HB8 := Lib.hid (HB7.out.trans (below_le HB7.out.size hb8))
            clear hb8 l7 HRt ca fa
            cases r8
            · have hst := stA_row HZ8.out rfl co 0 ⟨#[]⟩ ⟨#[]⟩ 0 0 0 0 0 0 0 0 0 none 0 0
              go_wp2_with fail
              refine bodyPost_ret (res_ask (u := 3) rfl _ _ w.heap.size co 0 ⟨#[]⟩ ⟨#[]⟩ 0 0 0 0 0 0 0 0 0 none 0 0 rfl (Bk.row HZ8.out _)) rfl ⟨noA.num co, none, 0, 0, 2, rfl, ⟨RdT.nil _, .inr ⟨co, rfl, by decide, ?_⟩⟩, below_row HB8.out HB8.out.size (Nat.le_refl _) _⟩
              show getA6 v k c0 c1 c2 c3 r = _
              unfold getA6
              rw [if_pos Hv1.out, Hbo.out, Hco.out]
              show (if rightA (x.num co) = true then _ else _) = _
              rw [Hr8.out]
              rfl
            · have hst := stA_row HZ8.out rfl co x.kind x.topic x.group x.part x.parts x.first x.off x.most x.time x.bat.time x.bat.prod x.bat.seq A5 n5 c5
              go_wp2_with fail
              refine bodyPost_ret (res_ask (u := 3) rfl _ _ w.heap.size co x.kind x.topic x.group x.part x.parts x.first x.off x.most x.time x.bat.time x.bat.prod x.bat.seq A5 n5 c5 rfl (Bk.row HZ8.out _)) rfl ⟨x.num co, A5, n5, c5, 0, rfl, ⟨RdT.kept HR8.out (grown_row _ _ _) (fun ad e e2 => ?_), .inl ⟨rfl, ?_⟩⟩, below_row HB8.out HB8.out.size (Nat.le_refl _) _⟩
              · have h1 := HPx.out ad e
                have h2 := HGa.out
                have := Option.some.inj e2
                omega
              · show getA6 v k c0 c1 c2 c3 r = _
                unfold getA6
                rw [if_pos Hv1.out, Hbo.out, Hco.out]
                show (if rightA (x.num co) = true then _ else _) = _
                rw [Hr8.out]
                rfl
          · have hk2 : (e6 != 0) = true := by rw [bne_iff_ne]; exact hke
            have Hbo : Hid (bodyA k r = .error e6) := by
              show bodyA k r = _
              unfold bodyA
              rw [if_neg (by rw [Hw.out]; decide), if_pos HRk.out, hga]
            have n5' := ldA_bk HN5.out
            have hst := stA_row HZ5.out rfl co 0 ⟨#[]⟩ ⟨#[]⟩ 0 0 0 0 0 0 0 0 0 none 0 0
            have Hke := Lib.hid hke
            clear hga hke
            go_wp2_with fail
            exact bodyPost_ret (res_ask (u := 3) rfl _ _ w.heap.size co 0 ⟨#[]⟩ ⟨#[]⟩ 0 0 0 0 0 0 0 0 0 none 0 0 rfl (Bk.row HZ5.out _)) rfl ⟨noA.num co, none, 0, 0, e6, rfl, ⟨RdT.nil _, .inr ⟨co, rfl, Hke.out, (by show getA6 v k c0 c1 c2 c3 r = _; unfold getA6; rw [if_pos Hv1.out, Hbo.out, Hco.out])⟩⟩, below_row HB5.out HB5.out.size (Nat.le_refl _) _⟩
        · have hk8 : w8 k % 256 = w8 k := by have := w8_lt k; omega
          have hown : OwnB (w4.alloc (.cells #[.int .u8 (w8 k)] 5)) w4.heap.size (.slice (some ⟨w4.heap.size, 0, none⟩) 1 1) [k] :=
            ((show Bb (w4.alloc (.cells #[.int .u8 (w8 k)] 5)) w4.heap.size 5 [k] from Bk.made w4 5 _).owns (n := 1) rfl (by omega)).own (Nat.le_refl _) 1 rfl
          have Hown := Lib.hid hown
          have hbn5 := Lib.hid (below_new w4 (.cells #[.int .u8 (w8 k)] 5))
          have Hw := Lib.hid hw
          have Hlr := Lib.hid HRp.out.len
          clear hown hw
          go_wp2_with (first | (at_builtin; go_loud (refine wpList_append_bytes rfl (.tmp 43) (.tmp 45) rfl w4.heap.size w4 _ [k] rfl Hown.out _ (n - 6) (c - 6) r rfl (HRp.out.ext hbn5.out) (by simp; omega) hbn5.out hbn5.out.size (1 + (n - 6)) (by simp) ?_); go_loud (intro A6 c6 w6 ho6 hb6 hs6)) | fail)
          have HK6 := Lib.hid (HK4.out.ext hb6)
          have HZ6 := Lib.hid (HZ4.out.ext hb6)
          have HN6 := Lib.hid (HN4.out.ext hb6)
          have HB6 := Lib.hid (HB4.out.trans (below_le HB4.out.size hb6))
          have HS6 := Lib.hid (Nat.lt_of_lt_of_le HS4.out hb6.size)
          have HGe := Lib.hid (refGetE_p A6 (1 + (n - 6)) c6 (k :: r) w6 ho6.out.rd (by omega))
          clear ho6 hb6 hs6 HK4 HZ4 HN4 HB4 HS4 HR4 Hrf4 HRp Hown hbn5
          with_reducible refine HGe.out.mono ?_
          rintro er w7 ⟨y, A5, n5, c5, e7, rfl, ⟨hry, hgy⟩, hb7, hp7⟩
          have hst := stE_newAt w7 w7.heap.size rfl y.kind y.topic y.group y.part y.parts y.first y.off y.bat.time y.bat.prod y.bat.seq A5 n5 c5 #[.int .i64 0, .string ⟨#[]⟩, .string ⟨#[]⟩, .int .i64 0, .int .i64 0, .int .i64 0, .int .i64 0, .int .i64 0, .int .i64 0, .int .i64 0, .slice none 0 0] rfl
          have hbn8 := below_new w7 (.cells #[.int .i64 y.kind, .string y.topic, .string y.group, .int .i64 y.part, .int .i64 y.parts, .int .i64 y.first, .int .i64 y.off, .int .i64 y.bat.time, .int .i64 y.bat.prod, .int .i64 y.bat.seq, .slice A5 n5 c5] 26)
          have hk8b := Bk.made w7 26 #[.int .i64 y.kind, .string y.topic, .string y.group, .int .i64 y.part, .int .i64 y.parts, .int .i64 y.first, .int .i64 y.off, .int .i64 y.bat.time, .int .i64 y.bat.prod, .int .i64 y.bat.seq, .slice A5 n5 c5]
          have le8 := ldE_bk hk8b
          have HK8 := Lib.hid ((HK6.out.ext hb7).ext hbn8)
          have HZ8 := Lib.hid ((HZ6.out.ext hb7).ext hbn8)
          have HN8 := Lib.hid ((HN6.out.ext hb7).ext hbn8)
          have HB8 := Lib.hid ((HB6.out.trans (below_le HB6.out.size hb7)).trans (below_le (Nat.le_trans HB6.out.size hb7.size) hbn8))
          have HR8 := Lib.hid (RdT.ext hry hbn8)
          have HPx : Hid (∀ a : Addr, A5 = some a → ga < a.block) := fun a h => Nat.lt_of_lt_of_le HS6.out (hp7 a h)
          clear hry hb7 hp7 hbn8 hk8b HK6 HZ6 HN6 HB6 HS6 HGe
          rcases hgy with ⟨rfl, hok⟩ | ⟨rfl, hne, herr⟩
          · have Hbo' : Hid (bodyA k r = .ok (ofE y)) := by
              show bodyA k r = _
              unfold bodyA
              rw [if_pos Hw.out, hok]
            have HA := Lib.hid (refAskOf_any y A5 n5 c5 (w7.alloc (.cells #[.int .i64 y.kind, .string y.topic, .string y.group, .int .i64 y.part, .int .i64 y.parts, .int .i64 y.first, .int .i64 y.off, .int .i64 y.bat.time, .int .i64 y.bat.prod, .int .i64 y.bat.seq, .slice A5 n5 c5] 26)))
            clear hok
            go_wp2_with fail
            with_reducible refine HA.out.mono ?_
            rintro er w9 ⟨rfl, hb9⟩
            have hrow := stA_row (HK8.out.ext hb9) rfl 0 y.kind y.topic y.group y.part y.parts y.first y.off 0 0 y.bat.time y.bat.prod y.bat.seq A5 n5 c5
            have hgr6 := grown_row w9 ga #[.int .i64 0, .int .i64 y.kind, .string y.topic, .string y.group, .int .i64 y.part, .int .i64 y.parts, .int .i64 y.first, .int .i64 y.off, .int .i64 0, .int .i64 0, .int .i64 y.bat.time, .int .i64 y.bat.prod, .int .i64 y.bat.seq, .slice A5 n5 c5]
            obtain ⟨x, hx⟩ : ∃ x, x = ofE y := ⟨_, rfl⟩
            have HKa : Hid (Bk (w9.setRow ga #[.int .i64 0, .int .i64 y.kind, .string y.topic, .string y.group, .int .i64 y.part, .int .i64 y.parts, .int .i64 y.first, .int .i64 y.off, .int .i64 0, .int .i64 0, .int .i64 y.bat.time, .int .i64 y.bat.prod, .int .i64 y.bat.seq, .slice A5 n5 c5]) ga 47 #[.int .i64 x.corr, .int .i64 x.kind, .string x.topic, .string x.group, .int .i64 x.part, .int .i64 x.parts, .int .i64 x.first, .int .i64 x.off, .int .i64 x.most, .int .i64 x.time, .int .i64 x.bat.time, .int .i64 x.bat.prod, .int .i64 x.bat.seq, .slice A5 n5 c5]) := by rw [hx]; exact Bk.row (HK8.out.ext hb9) _
            have HRx : Hid (RdT (w9.setRow ga #[.int .i64 0, .int .i64 y.kind, .string y.topic, .string y.group, .int .i64 y.part, .int .i64 y.parts, .int .i64 y.first, .int .i64 y.off, .int .i64 0, .int .i64 0, .int .i64 y.bat.time, .int .i64 y.bat.prod, .int .i64 y.bat.seq, .slice A5 n5 c5]) A5 n5 c5 x.bat.vals) := by rw [hx]; exact RdT.kept (RdT.ext HR8.out hb9) hgr6 (fun ad e e2 => by have := HPx.out ad e; have := Option.some.inj e2; omega)
            have HZe := Lib.hid ((HZ8.out.ext hb9).grown hgr6 (fun e => by have := Option.some.inj e; have := HGa.out; omega))
            have HNe := Lib.hid ((HN8.out.ext hb9).grown hgr6 (fun e => by have := Option.some.inj e; have := HGn.out; omega))
            have hB9 := HB8.out.trans (below_le HB8.out.size hb9)
            have HBe := Lib.hid (below_row hB9 hB9.size (Nat.le_of_lt HGa.out) #[.int .i64 0, .int .i64 y.kind, .string y.topic, .string y.group, .int .i64 y.part, .int .i64 y.parts, .int .i64 y.first, .int .i64 y.off, .int .i64 0, .int .i64 0, .int .i64 y.bat.time, .int .i64 y.bat.prod, .int .i64 y.bat.seq, .slice A5 n5 c5])
            have Hbo := Hbo'.out
            rw [← hx] at Hbo
            have Hbo := Lib.hid Hbo
            clear hb9 hgr6 HA HK8 HZ8 HN8 HB8 HR8 Hbo' hx hB9 le8 hst
            go_upto_region 21 with fail
            clear hrow
            generalize w9.setRow ga #[.int .i64 0, .int .i64 y.kind, .string y.topic, .string y.group, .int .i64 y.part, .int .i64 y.parts, .int .i64 y.first, .int .i64 y.off, .int .i64 0, .int .i64 0, .int .i64 y.bat.time, .int .i64 y.bat.prod, .int .i64 y.bat.seq, .slice A5 n5 c5] = wE at HKa HRx HZe HNe HBe ⊢
            have hk7 : Bk (wE.setCell ⟨ga, 0, none⟩ (.int .i64 co)) ga 47 #[.int .i64 co, .int .i64 x.kind, .string x.topic, .string x.group, .int .i64 x.part, .int .i64 x.parts, .int .i64 x.first, .int .i64 x.off, .int .i64 x.most, .int .i64 x.time, .int .i64 x.bat.time, .int .i64 x.bat.prod, .int .i64 x.bat.seq, .slice A5 n5 c5] := HKa.out.put 0 (.int .i64 co)
            have hg7 := grown_set wE ⟨ga, 0, none⟩ (.int .i64 co)
            have HK7 := Lib.hid hk7
            have HR7 := Lib.hid (RdT.kept HRx.out hg7 (fun ad e e2 => by have h1 := HPx.out ad e; have h2 : ga = ad.block := Option.some.inj e2; omega))
            have HZ7 := Lib.hid (HZe.out.grown hg7 (fun e => by have h1 : w.heap.size = ga := Option.some.inj e; have h2 := HGa.out; omega))
            have HN7 := Lib.hid (HNe.out.grown hg7 (fun e => by have h1 : gn = ga := Option.some.inj e; have h2 := HGn.out; omega))
            have HB7 := Lib.hid (below_grown HBe.out HBe.out.size hg7 (Nat.le_of_lt HGa.out))
            have ca := HKa.out.cell 0
            have fa := HKa.out.thaw 0
            obtain ⟨r8, hr8⟩ : ∃ r8, rightA (x.num co) = r8 := ⟨_, rfl⟩
            have HRt : Hid (Calls Tryz.prog 27 #[.agg #[.int .i64 co, .int .i64 x.kind, .string x.topic, .string x.group, .int .i64 x.part, .int .i64 x.parts, .int .i64 x.first, .int .i64 x.off, .int .i64 x.most, .int .i64 x.time, .int .i64 x.bat.time, .int .i64 x.bat.prod, .int .i64 x.bat.seq, .slice A5 n5 c5]] (wE.setCell ⟨ga, 0, none⟩ (.int .i64 co)) fun er w' => er = .returned (.bool r8) ∧ Below (wE.setCell ⟨ga, 0, none⟩ (.int .i64 co)).heap.size (wE.setCell ⟨ga, 0, none⟩ (.int .i64 co)) w') := refRightA_any (x.num co) A5 n5 c5 _ HR7.out r8 hr8
            have Hr8 := Lib.hid hr8
            have l7 := ldA_bk HK7.out
            clear hk7 hg7 hr8
            go_wp2_with fail
            with_reducible refine HRt.out.mono ?_
            rintro er w8' ⟨rfl, hb8⟩
            have l8 := ldA_bk (HK7.out.ext hb8)
            have n8 := ldA_bk (HN7.out.ext hb8)
            have HZ8 := Lib.hid (HZ7.out.ext hb8)
            have HR8 := Lib.hid (RdT.ext HR7.out hb8)
            have HB8 := Lib.hid (HB7.out.trans (below_le HB7.out.size hb8))
            clear hb8 l7 HRt ca fa
            cases r8
            · have hst := stA_row HZ8.out rfl co 0 ⟨#[]⟩ ⟨#[]⟩ 0 0 0 0 0 0 0 0 0 none 0 0
              go_wp2_with fail
              refine bodyPost_ret (res_ask (u := 3) rfl _ _ w.heap.size co 0 ⟨#[]⟩ ⟨#[]⟩ 0 0 0 0 0 0 0 0 0 none 0 0 rfl (Bk.row HZ8.out _)) rfl ⟨noA.num co, none, 0, 0, 2, rfl, ⟨RdT.nil _, .inr ⟨co, rfl, by decide, ?_⟩⟩, below_row HB8.out HB8.out.size (Nat.le_refl _) _⟩
              show getA6 v k c0 c1 c2 c3 r = _
              unfold getA6
              rw [if_pos Hv1.out, Hbo.out, Hco.out]
              show (if rightA (x.num co) = true then _ else _) = _
              rw [Hr8.out]
              rfl
            · have hst := stA_row HZ8.out rfl co x.kind x.topic x.group x.part x.parts x.first x.off x.most x.time x.bat.time x.bat.prod x.bat.seq A5 n5 c5
              go_wp2_with fail
              refine bodyPost_ret (res_ask (u := 3) rfl _ _ w.heap.size co x.kind x.topic x.group x.part x.parts x.first x.off x.most x.time x.bat.time x.bat.prod x.bat.seq A5 n5 c5 rfl (Bk.row HZ8.out _)) rfl ⟨x.num co, A5, n5, c5, 0, rfl, ⟨RdT.kept HR8.out (grown_row _ _ _) (fun ad e e2 => ?_), .inl ⟨rfl, ?_⟩⟩, below_row HB8.out HB8.out.size (Nat.le_refl _) _⟩
              · have h1 := HPx.out ad e
                have h2 := HGa.out
                have := Option.some.inj e2
                omega
              · show getA6 v k c0 c1 c2 c3 r = _
                unfold getA6
                rw [if_pos Hv1.out, Hbo.out, Hco.out]
                show (if rightA (x.num co) = true then _ else _) = _
                rw [Hr8.out]
                rfl
          · have hk2 : (e7 != 0) = true := by rw [bne_iff_ne]; exact hne
            have Hbo : Hid (bodyA k r = .error e7) := by
              show bodyA k r = _
              unfold bodyA
              rw [if_pos Hw.out, herr]
            have n8' := ldA_bk HN8.out
            have hsA := stA_row HZ8.out rfl co 0 ⟨#[]⟩ ⟨#[]⟩ 0 0 0 0 0 0 0 0 0 none 0 0
            have Hke := Lib.hid hne
            clear herr hne
            go_wp2_with fail
            exact bodyPost_ret (res_ask (u := 3) rfl _ _ w.heap.size co 0 ⟨#[]⟩ ⟨#[]⟩ 0 0 0 0 0 0 0 0 0 none 0 0 rfl (Bk.row HZ8.out _)) rfl ⟨noA.num co, none, 0, 0, e7, rfl, ⟨RdT.nil _, .inr ⟨co, rfl, Hke.out, (by show getA6 v k c0 c1 c2 c3 r = _; unfold getA6; rw [if_pos Hv1.out, Hbo.out, Hco.out])⟩⟩, below_row HB8.out HB8.out.size (Nat.le_refl _) _⟩
end Go.Proofs.YtpfdbbcfcimmfaaGreatDoor
