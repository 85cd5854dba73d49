/-
  staveref19: GetEntry.
-/
import Derived.Test.YtpfdbbcfcimmfaaGreatDoorRRight
import Derived.Test.YtpfdbbcfcimmfaaGreatDoorEGetW
namespace Go.Proofs.YtpfdbbcfcimmfaaGreatDoor
open Go.RowKit
attribute [local go_sem ↓] ldE_eq stE_eq sliced_past
attribute [local go_sem] w8_nn w8_256 wrap_i64_w8 wrap64_w8 pastA_zero

/-- what GetEntry hands back -/
def RGetE (l : List UInt8) (w' : World) (x : Ent) (A : Option Addr) (n c : Nat) (k : Int) : Prop :=
  RdT w' A n c x.bat.vals ∧ ((k = 0 ∧ getE l = .ok x) ∨ (x = noE ∧ k ≠ 0 ∧ getE l = .error k))
set_option maxRecDepth 100000 in
set_option maxHeartbeats 4000000 in
theorem refGetE_any (A : Option Addr) (n c : Nat) (l : List UInt8) (w : World) (hr : RdB w A n c l) (hnb : n ≤ 1000000) :
    Calls Tryz.prog 18 #[.slice A n c] w fun er w' => ∃ (x : Ent) (A' : Option Addr) (n' c' : Nat) (k : Int), er = .returned (.tuple #[.agg #[.int .i64 x.kind, .string x.topic, .string x.group, .int .i64 x.part, .int .i64 x.parts, .int .i64 x.first, .int .i64 x.off, .int .i64 x.bat.time, .int .i64 x.bat.prod, .int .i64 x.bat.seq, .slice A' n' c'], .int .i64 k]) ∧ RGetE l w' x A' n' c' k ∧ Below w.heap.size w w' := by
  have hz := Bk.made w 26 #[.int .i64 0, .string ⟨#[]⟩, .string ⟨#[]⟩, .int .i64 0, .int .i64 0, .int .i64 0, .int .i64 0, .int .i64 0, .int .i64 0, .int .i64 0, .slice none 0 0]
  have hbn := below_new w (.cells #[.int .i64 0, .string ⟨#[]⟩, .string ⟨#[]⟩, .int .i64 0, .int .i64 0, .int .i64 0, .int .i64 0, .int .i64 0, .int .i64 0, .int .i64 0, .slice none 0 0] 26)
  have Hz := Lib.hid hz
  have HB := Lib.hid hbn
  have HR := Lib.hid (hr.ext hbn)
  have hlen := hr.len
  have hcap := hr.cap
  have hbig := hr.big
  by_cases hn : n = 0
  · subst hn
    obtain rfl : l = [] := List.eq_nil_of_length_eq_zero hlen
    have hst := stE_row hz rfl 0 ⟨#[]⟩ ⟨#[]⟩ 0 0 0 0 0 0 0 none 0 0
    clear hz hbn hr
    go_enter Tryz.func18, Tryz.ntmps18
    go_wp2_with fail
    exact bodyPost_ret (res_ent (u := 3) rfl _ _ w.heap.size 0 ⟨#[]⟩ ⟨#[]⟩ 0 0 0 0 0 0 0 none 0 0 rfl (Bk.row Hz.out _)) rfl ⟨noE, none, 0, 0, 3, rfl, ⟨RdT.nil _, .inr ⟨rfl, by decide, rfl⟩⟩, below_row HB.out HB.out.size (Nat.le_refl _) _⟩
  · have hn0 : (0 : Int) < n := by omega
    have hnz : ((n : Int) == 0) = false := by simp; omega
    obtain ⟨ad, x0, rfl, had, hx0, hc0⟩ : ∃ ad x, A = some ad ∧ ad.block < w.heap.size ∧ Hid (l[0]? = some x) ∧ w.cell? ad = some (.int .u8 (w8 x)) := by
      obtain ⟨ad, e1, e2, e3⟩ := Rd.get hr (k := 0) (by omega)
      have hl : 0 < l.length := by omega
      refine ⟨ad, l[0], e1, e2, List.getElem?_eq_getElem hl, ?_⟩
      have : ad.add 0 = ad := by unfold Addr.add; simp
      rw [this] at e3
      rw [e3]
      simp [bvs, bv]
    have HC : Hid (∀ w', Below w.heap.size w w' → w'.cell? ad = some (.int .u8 (w8 x0))) := fun w' hb => (hb.cell had).trans hc0
    have hcz := HC.out _ hbn
    obtain ⟨r, rfl⟩ : ∃ r, l = x0 :: r := by
      have h := hx0.out
      cases l with
      | nil => simp at h
      | cons y r => simp at h; subst h; exact ⟨r, rfl⟩
    have HF := Lib.hid (refFlds_any (w8 x0) (w.alloc (.cells #[.int .i64 0, .string ⟨#[]⟩, .string ⟨#[]⟩, .int .i64 0, .int .i64 0, .int .i64 0, .int .i64 0, .int .i64 0, .int .i64 0, .int .i64 0, .slice none 0 0] 26)))
    clear hz hbn hr hc0 had
    go_enter Tryz.func18, Tryz.ntmps18
    go_wp2_with fail
    with_reducible refine HF.out.mono ?_
    rintro er w1 ⟨v1, rfl, hf1, hb1⟩
    obtain ⟨A1, n1, c1, rfl, hrf, hn1, hsome⟩ := hf1
    have hz1 := Hz.out.ext hb1
    have HB1 := Lib.hid (HB.out.trans (below_le HB.out.size hb1))
    have HR1 := Lib.hid (HR.out.ext hb1)
    have Hrf := Lib.hid hrf
    have hen := eq_nil_slice
    by_cases hkd : 1 ≤ w8 x0 ∧ w8 x0 ≤ 5
    · rw [decide_eq_true hkd] at hsome
      have hnone : A1.isNone = false := by cases A1 <;> simp at hsome ⊢
      have hrp := (HR1.out.past' 1 (by omega))
      have hn1c : (1 : Int) ≤ (n : Int) := by omega
      have hG := Lib.hid (refGet_any A1 n1 c1 (fldsE (w8 x0)) _ _ _ _ w1 (flds_some _) Hrf.out hrp hn1 (by omega))
      have Hz1 := Lib.hid hz1
      have Hkd := Lib.hid hkd
      clear hrf hb1 hz1 HF Hz HR HB hcz hkd
      go_wp2_with fail
      with_reducible refine hG.out.mono ?_
      rintro er w2 ⟨A2, n2, c2, k2, i2, rfl, hgr, hb2⟩
      have hz2 := Hz1.out.ext hb2
      have Hz2 := Lib.hid hz2
      have HB2 := Lib.hid (HB1.out.trans (below_le HB1.out.size hb2))
      rcases hgr with ⟨rfl, ms, hrv, hga, _⟩ | ⟨hke, hga⟩
      · have hok := (getAll_inv _ _ _ (good_E _) hga).1
        have HM := Lib.hid (refMade_any (w8 x0) Hkd.out A2 n2 c2 ms w2 hrv hok)
        have Hga := Lib.hid (getE_vals Hkd.out (show getAll (fldsE (w8 x0)) r = _ from hga))
        have hc2 := HC.out _ HB2.out
        clear hrv hga hok hb2 hz2 hG hrp
        go_wp2_with fail
        with_reducible refine HM.out.mono ?_
        rintro er w3 ⟨x, A3, n3, c3, ok, rfl, hm3, hb3⟩
        obtain ⟨hr3, hp3, hv3⟩ := hm3
        have hst3 := stE_newAt w3 w3.heap.size rfl x.kind x.topic x.group x.part x.parts x.first x.off x.bat.time x.bat.prod x.bat.seq A3 n3 c3 #[.int .i64 0, .string ⟨#[]⟩, .string ⟨#[]⟩, .int .i64 0, .int .i64 0, .int .i64 0, .int .i64 0, .int .i64 0, .int .i64 0, .int .i64 0, .slice none 0 0] rfl
        have hbn3 := below_new w3 (.cells #[.int .i64 x.kind, .string x.topic, .string x.group, .int .i64 x.part, .int .i64 x.parts, .int .i64 x.first, .int .i64 x.off, .int .i64 x.bat.time, .int .i64 x.bat.prod, .int .i64 x.bat.seq, .slice A3 n3 c3] 26)
        have hk3 := Bk.made w3 26 #[.int .i64 x.kind, .string x.topic, .string x.group, .int .i64 x.part, .int .i64 x.parts, .int .i64 x.first, .int .i64 x.off, .int .i64 x.bat.time, .int .i64 x.bat.prod, .int .i64 x.bat.seq, .slice A3 n3 c3]
        have hld3 := ldE_bk hk3
        have hz3 := (Hz2.out.ext hb3).ext hbn3
        have HB3 := Lib.hid ((HB2.out.trans (below_le HB2.out.size hb3)).trans (below_le (Nat.le_trans HB2.out.size hb3.size) hbn3))
        have HR3 := Lib.hid (RdT.ext hr3 hbn3)
        have Hp3 := Lib.hid hp3
        have HK3 := Lib.hid hk3
        have Hz3 := Lib.hid hz3
        have Hw2 := Lib.hid Hz2.out.lt
        clear hr3 hp3 hbn3 hk3 hb3 HM hc2
        rcases hv3 with ⟨rfl, hbad, hx3⟩ | ⟨rfl, rfl, e, hbad⟩
        · obtain ⟨rr, hrr⟩ : ∃ rr, rightE x = rr := ⟨_, rfl⟩
          have HRt := Lib.hid (refRight_any x A3 n3 c3 _ HR3.out rr hrr)
          have hg2 := Hga.out
          rw [hbad, ← hx3, hrr] at hg2
          have Hg2 := Lib.hid hg2
          clear hg2 hrr hbad hz3 hx3
          cases rr
          · go_wp2_with fail
            with_reducible refine HRt.out.mono ?_
            rintro er w4 ⟨rfl, hb4⟩
            have hz4 := Hz3.out.ext hb4
            have hst := stE_row hz4 rfl 0 ⟨#[]⟩ ⟨#[]⟩ 0 0 0 0 0 0 0 none 0 0
            have Hz4 := Lib.hid hz4
            have HB4 := Lib.hid (HB3.out.trans (below_le HB3.out.size hb4))
            clear hld3 hst3 hz4 hb4
            go_wp2_with fail
            exact bodyPost_ret (res_ent (u := 3) rfl _ _ w.heap.size 0 ⟨#[]⟩ ⟨#[]⟩ 0 0 0 0 0 0 0 none 0 0 rfl (Bk.row Hz4.out _)) rfl ⟨noE, none, 0, 0, 2, rfl, ⟨RdT.nil _, .inr ⟨rfl, by decide, by rw [Hg2.out]; rfl⟩⟩, below_row HB4.out HB4.out.size (Nat.le_refl _) _⟩
          · go_wp2_with fail
            with_reducible refine HRt.out.mono ?_
            rintro er w4 ⟨rfl, hb4⟩
            have hz4 := Hz3.out.ext hb4
            have hld4 := ldE_bk (HK3.out.ext hb4)
            have hst := stE_row hz4 rfl x.kind x.topic x.group x.part x.parts x.first x.off x.bat.time x.bat.prod x.bat.seq A3 n3 c3
            have Hz4 := Lib.hid hz4
            have HB4 := Lib.hid (HB3.out.trans (below_le HB3.out.size hb4))
            have HR4 := Lib.hid (HR3.out.ext hb4)
            clear hld3 hst3 hz4 hb4
            go_wp2_with fail
            refine bodyPost_ret (res_ent (u := 3) rfl _ _ w.heap.size x.kind x.topic x.group x.part x.parts x.first x.off x.bat.time x.bat.prod x.bat.seq A3 n3 c3 rfl (Bk.row Hz4.out _)) rfl ⟨x, A3, n3, c3, 0, rfl, ⟨RdT.kept HR4.out (grown_row _ _ _) (fun ad e e2 => ?_), .inl ⟨rfl, by rw [Hg2.out]; rfl⟩⟩, below_row HB4.out HB4.out.size (Nat.le_refl _) _⟩
            have h1 := Hp3.out ad e
            have h2 := Hw2.out
            have := Option.some.inj e2
            omega
        · have hst := stE_row hz3 rfl 0 ⟨#[]⟩ ⟨#[]⟩ 0 0 0 0 0 0 0 none 0 0
          have hg2 := Hga.out
          rw [hbad] at hg2
          have Hg2 := Lib.hid hg2
          clear hg2 hbad hz3
          go_wp2_with fail
          exact bodyPost_ret (res_ent (u := 3) rfl _ _ w.heap.size 0 ⟨#[]⟩ ⟨#[]⟩ 0 0 0 0 0 0 0 none 0 0 rfl (Bk.row Hz3.out _)) rfl ⟨noE, none, 0, 0, 2, rfl, ⟨RdT.nil _, .inr ⟨rfl, by decide, by rw [Hg2.out]; rfl⟩⟩, below_row HB3.out HB3.out.size (Nat.le_refl _) _⟩
      · have hk2 : (k2 != 0) = true := by rw [bne_iff_ne]; exact hke
        have hst := stE_row hz2 rfl 0 ⟨#[]⟩ ⟨#[]⟩ 0 0 0 0 0 0 0 none 0 0
        have Hke := Lib.hid hke
        have Hga := Lib.hid (getE_err Hkd.out (show getAll (fldsE (w8 x0)) r = .error k2 from hga))
        clear hke hga hb2 hz2 hG hrp
        go_wp2_with fail
        exact bodyPost_ret (res_ent (u := 3) rfl _ _ w.heap.size 0 ⟨#[]⟩ ⟨#[]⟩ 0 0 0 0 0 0 0 none 0 0 rfl (Bk.row Hz2.out _)) rfl ⟨noE, none, 0, 0, k2, rfl, ⟨RdT.nil _, .inr ⟨rfl, Hke.out, Hga.out⟩⟩, below_row HB2.out HB2.out.size (Nat.le_refl _) _⟩
    · rw [decide_eq_false hkd] at hsome
      have hnone : A1.isNone = true := by cases A1 <;> simp at hsome ⊢
      have hge : Hid (getE (x0 :: r) = .error 2) := getE_none (by omega)
      have hst := stE_row hz1 rfl 0 ⟨#[]⟩ ⟨#[]⟩ 0 0 0 0 0 0 0 none 0 0
      have Hz1 := Lib.hid hz1
      clear hrf hb1 hz1 HF Hz HR HB hcz hkd
      go_wp2_with fail
      exact bodyPost_ret (res_ent (u := 3) rfl _ _ w.heap.size 0 ⟨#[]⟩ ⟨#[]⟩ 0 0 0 0 0 0 0 none 0 0 rfl (Bk.row Hz1.out _)) rfl ⟨noE, none, 0, 0, 2, rfl, ⟨RdT.nil _, .inr ⟨rfl, by decide, hge.out⟩⟩, below_row HB1.out HB1.out.size (Nat.le_refl _) _⟩
end Go.Proofs.YtpfdbbcfcimmfaaGreatDoor
