import Derived.Test.YtkdlofgfkfhofaaGreatDoorP34
import Derived.Test.YtkdlofgfkfhofaaGreatDoorP03
import Derived.Test.YtkdlofgfkfhofaaGreatDoorP29
import Derived.Test.YtkdlofgfkfhofaaGreatDoorP31
/-
  server: pass, body.
-/
namespace Go.Proofs.YtkdlofgfkfhofaaGreatDoor
open Go.RowKit Go.Maps

/-- what comes in frames -/
inductive Ev where
  | big
  | frame (x : List UInt8)
def passM (l : List UInt8) (p : Nat) : List UInt8 := l.drop (min p l.length)
def leftM (l : List UInt8) (p : Nat) : Nat := p - min p l.length
def len2 (x y : UInt8) : Nat := x.toNat + 256 * y.toNat
/-- the next frame, if all of it is there -/
def stepM (l : List UInt8) (p : Nat) : Option (Ev × List UInt8 × Nat) :=
  match passM l p with
  | x :: y :: r => if len2 x y ≤ 1024 then (if r.length < len2 x y then none else some (.frame (r.take (len2 x y)), r.drop (len2 x y), leftM l p)) else some (.big, r, len2 x y)
  | _ => none
/-- one connection in memory -/
structure CnAt (w : World) (v : CV) (sv b : Nat) (l : List UInt8) (p : Nat) (out : List UInt8) : Prop where
  inp : ∃ A n c, v.inp = .slice A n c ∧ RdB w A n c l ∧ (∀ ad, A = some ad → ad.block ≠ sv ∧ ad.block ≠ b)
  past : v.past = .int .i64 p
  out : ∃ A n c, v.out = .slice A n c ∧ RdB w A n c out ∧ (∀ ad, A = some ad → ad.block ≠ sv ∧ ad.block ≠ b)
theorem CnAt.turned {w w' : World} {v : CV} {sv b : Nat} {l : List UInt8} {p : Nat} {out : List UInt8} {Q : Nat → Prop} (h : CnAt w v sv b l p out) (ht : Turned Q w w') (hQ : ∀ i, Q i → i = sv ∨ i = b) : CnAt w' v sv b l p out := by
  obtain ⟨A, n, c, h1, h2, h3⟩ := h.inp
  obtain ⟨A', n', c', h1', h2', h3'⟩ := h.out
  exact ⟨⟨A, n, c, h1, RdB.turned h2 ht (fun ad e hq => (hQ _ hq).elim (h3 ad e).1 (h3 ad e).2), h3⟩, h.past, ⟨A', n', c', h1', RdB.turned h2' ht (fun ad e hq => (hQ _ hq).elim (h3' ad e).1 (h3' ad e).2), h3'⟩⟩
theorem pastA_block {A : Option Addr} {k c s : Nat} {ad : Addr} (h : pastA A k c s = some ad) : ∃ ad', A = some ad' ∧ ad'.block = ad.block := by
  unfold pastA at h
  split at h
  · exact ⟨ad, h, rfl⟩
  · obtain ⟨a, h1, h2⟩ := Option.map_eq_some_iff.1 h
    exact ⟨a, h1, by rw [← h2]; unfold Addr.add; split <;> rfl⟩
attribute [local go_sem ↓] sliced_past
attribute [local go_sem] pastA_zero
set_option maxRecDepth 100000 in
set_option maxHeartbeats 2000000 in
theorem pass_any {w : World} {sv b i : Nat} {cs : Nat → CV} (hS : Bk w sv 81 (svA b cs)) (hi : i < 4) {l : List UInt8} {p : Nat} {out : List UInt8} (hC : CnAt w (cs i) sv b l p out) (hp : p ≤ 900000) :
    Calls Tryz.prog 107 #[.pointer (some ⟨sv, 1 + 4 * i, none⟩)] w fun e w' => e = .returned (.tuple #[]) ∧ ∃ v, SvW w w' sv b (upC cs i v) ∧ CnAt w' v sv b (passM l p) (leftM l p) out ∧ v.aw = (cs i).aw := by
  obtain ⟨A, n, c, h1, h2, h3⟩ := hC.inp
  have hln := h2.len
  have hcap := h2.cap
  have hbig := h2.big
  have c0 : w.cell? ⟨sv, 1 + 4 * i, none⟩ = some (.slice A n c) := by rw [hS.cell, (svA_get cs hi).1, h1]
  have c1 : w.cell? ⟨sv, 1 + 4 * i + 1, none⟩ = some (.int .i64 p) := by rw [hS.cell, (svA_get cs hi).2.1, hC.past]
  have z0 := hS.thaw (1 + 4 * i)
  have z1 := hS.thaw (1 + 4 * i + 1)
  obtain ⟨m, hm, hm1, hm2⟩ : ∃ m : Nat, min p n = m ∧ m ≤ p ∧ m ≤ n := ⟨_, rfl, Nat.min_le_left _ _, Nat.min_le_right _ _⟩
  have hmi : min (p : Int) (n : Int) = m := by omega
  have HM := Lib.hid hm
  have HS := Lib.hid hS
  have HC := Lib.hid hC
  have H1 := Lib.hid h1
  have H2 := Lib.hid h2
  have HLn := Lib.hid hln
  clear hS hC h1 h2 hm hln
  have c0q : ∀ q, (w.drewN q).cell? ⟨sv, 1 + 4 * i, none⟩ = some (.slice A n c) := fun _ => c0
  have c1q : ∀ q, (w.drewN q).cell? ⟨sv, 1 + 4 * i + 1, none⟩ = some (.int .i64 p) := fun _ => c1
  clear c0 c1
  go_enter Tryz.func107, Tryz.ntmps107
  go_wp2_with fail
  go_quiet (fail)
  have hbq : Below w.heap.size w (w.drewN nq) := ⟨rfl, rfl, rfl, Nat.le_refl _, fun _ _ => rfl⟩
  have HS1 : Hid (SvW w (w.drewN nq) sv b cs) := SvW.ext ⟨HS.out, Turned.refl _ _⟩ hbq
  have HR1 : Hid (RdB (w.drewN nq) A n c l) := H2.out.ext hbq
  generalize w.drewN nq = w1 at HS1 HR1 ⊢
  clear hbq c0q c1q z0 z1
  have c0 : w1.cell? ⟨sv, 1 + 4 * i, none⟩ = some (.slice A n c) := by rw [HS1.out.bk.cell, (svA_get cs hi).1, H1.out]
  have c1 : w1.cell? ⟨sv, 1 + 4 * i + 1, none⟩ = some (.int .i64 p) := by rw [HS1.out.bk.cell, (svA_get cs hi).2.1, HC.out.past]
  have z0 := HS1.out.bk.thaw (1 + 4 * i)
  have z1 := HS1.out.bk.thaw (1 + 4 * i + 1)
  go_wp2_with fail
  go_region
  go_end0
  have hS2 := (HS1.out.put (svA_set cs hi (.slice (pastA A m c 1) (n - m) (c - m))).1).put (svA_set _ hi (.int .i64 ((p : Int) - m))).2.1
  rw [upC_same, upC_up] at hS2
  have hS3 := hS2.ext (below_drew1 (Below.refl _ _))
  have hT : Turned (fun j => j = sv) w1 (((w1.setCell ⟨sv, 1 + 4 * i, none⟩ (.slice (pastA A m c 1) (n - m) (c - m))).setCell ⟨sv, 1 + 4 * i + 1, none⟩ (.int .i64 ((p : Int) - m))).drew) := by
    have h := ((⟨HS1.out.bk, Turned.refl _ _⟩ : SvW w1 w1 sv b cs).put (svA_set cs hi (.slice (pastA A m c 1) (n - m) (c - m))).1).put (svA_set _ hi (.int .i64 ((p : Int) - m))).2.1
    exact (h.ext (below_drew1 (Below.refl _ _))).tu
  have hin : passM l p = l.drop m := by unfold passM; rw [HLn.out, HM.out]
  have hlf : leftM l p = p - m := by unfold leftM; rw [HLn.out, HM.out]
  obtain ⟨A', n', c', e1, e2, e3⟩ := HC.out.out
  refine ⟨rfl, _, hS3, ⟨⟨_, _, _, rfl, ?_, ?_⟩, ?_, ⟨A', n', c', e1, ?_, e3⟩⟩, rfl⟩
  · rw [hin]
    refine RdB.turned (HR1.out.past' m hm2) hT fun ad e hq => ?_
    obtain ⟨ad', q1, q2⟩ := pastA_block e
    exact (h3 ad' q1).1 (q2.trans hq)
  · intro ad e
    obtain ⟨ad', q1, q2⟩ := pastA_block e
    rw [← q2]
    exact h3 ad' q1
  · rw [hlf]
    show Value.int .i64 ((p : Int) - m) = _
    congr 1
    omega
  · refine RdB.turned (RdB.turned e2 HS1.out.tu fun ad e hq => (e3 ad e).1 hq) hT fun ad e hq => (e3 ad e).1 hq
end Go.Proofs.YtkdlofgfkfhofaaGreatDoor

/-
  entry: Get, with where the values lie.
-/
namespace Go.Proofs.YtkdlofgfkfhofaaGreatDoor
open Go.RowKit
attribute [local go_sem ↓] ldB_eq stB_eq ldE_eq stE_eq sliced_past
attribute [local go_sem] pastA_zero pastA_some w8_nn w8_256 wrap_i64_w8 wrap64_w8

set_option maxRecDepth 100000 in
set_option maxHeartbeats 4000000 in
theorem eget_prov (A : Option Addr) (n c : Nat) (l : List UInt8) (w : World) (hr : RdB w A n c l) :
    Calls Tryz.prog 78 #[.slice A n c] w fun er w' => ∃ (x : Ent) (A' : Option Addr) (n' c' : Nat) (v : Value), er = .returned (.tuple #[.agg #[.int .i64 x.kind, .string x.topic, .string x.group, .int .i64 x.part, .int .i64 x.parts, .int .i64 x.first, .int .i64 x.off, .int .i64 x.bat.time, .int .i64 x.bat.prod, .int .i64 x.bat.seq, .slice A' n' c'], v]) ∧ GetEr l w' x A' n' c' v ∧ Below w.heap.size w w' ∧ (∀ ad, A' = some ad → w.heap.size ≤ ad.block) := by
  have hz := Bk.made w 121 #[.int .i64 0, .string ⟨#[]⟩, .string ⟨#[]⟩, .int .i64 0, .int .i64 0, .int .i64 0, .int .i64 0, .int .i64 0, .int .i64 0, .int .i64 0, .slice none 0 0]
  have hbn := below_new w (.cells #[.int .i64 0, .string ⟨#[]⟩, .string ⟨#[]⟩, .int .i64 0, .int .i64 0, .int .i64 0, .int .i64 0, .int .i64 0, .int .i64 0, .int .i64 0, .slice none 0 0] 121)
  have Hz := Lib.hid hz
  have HB := Lib.hid hbn
  have HR := Lib.hid (hr.ext hbn)
  have hlen := hr.len
  have hcap := hr.cap
  have hbig := hr.big
  by_cases hn : n = 0
  · subst hn
    obtain rfl : l = [] := List.eq_nil_of_length_eq_zero hlen
    have hst := stE_row hz rfl 0 ⟨#[]⟩ ⟨#[]⟩ 0 0 0 0 0 0 0 none 0 0
    clear hz hbn hr
    go_enter Tryz.func78, Tryz.ntmps78
    go_wp2_with (first | (go_at_call 39; refine (wrap_err (.no 3) _ _ _).mono ?_; rintro er w4 ⟨v4, rfl, he4, rfl⟩) | fail)
    exact bodyPost_ret (res_ent (u := 3) rfl _ _ w.heap.size 0 ⟨#[]⟩ ⟨#[]⟩ 0 0 0 0 0 0 0 none 0 0 rfl (Bk.row Hz.out _)) rfl ⟨noE, none, 0, 0, v4, rfl, ⟨RdT.nil _, .inr ⟨rfl, 0, 3, by omega, he4, rfl⟩⟩, below_row HB.out HB.out.size (Nat.le_refl _) _, fun ad h => by cases h⟩
  · have hn0 : (0 : Int) < n := by omega
    have hnz : ((n : Int) == 0) = false := by simp; omega
    obtain ⟨ad, x0, rfl, _, hx0, hc0⟩ := RdB.get (hr.ext hbn) (k := 0) (by omega)
    have hcz : (w.alloc (.cells #[.int .i64 0, .string ⟨#[]⟩, .string ⟨#[]⟩, .int .i64 0, .int .i64 0, .int .i64 0, .int .i64 0, .int .i64 0, .int .i64 0, .int .i64 0, .slice none 0 0] 121)).cell? ad = some (.int .u8 (w8 x0)) := by
      have : ad.add 0 = ad := by unfold Addr.add; simp
      rw [← this]; exact hc0
    obtain ⟨r, rfl⟩ : ∃ r, l = x0 :: r := by
      have h := hx0.out
      cases l with
      | nil => simp at h
      | cons y r => simp at h; subst h; exact ⟨r, rfl⟩
    have HF := Lib.hid (fields_any (w8 x0) _ _ _ (Below.refl (w.alloc (.cells #[.int .i64 0, .string ⟨#[]⟩, .string ⟨#[]⟩, .int .i64 0, .int .i64 0, .int .i64 0, .int .i64 0, .int .i64 0, .int .i64 0, .int .i64 0, .slice none 0 0] 121)).heap.size _) (Nat.le_refl _))
    clear hz hbn hr hc0
    go_enter Tryz.func78, Tryz.ntmps78
    go_wp2_with fail
    with_reducible refine HF.out.mono ?_
    rintro er w1 ⟨v1, rfl, hf1, hb1⟩
    obtain ⟨A1, n1, c1, rfl, hrf, hn1, hsome⟩ := hf1
    have hz1 := Hz.out.ext hb1
    have HB1 := Lib.hid (HB.out.trans (below_le HB.out.size hb1))
    have HR1 := Lib.hid (HR.out.ext hb1)
    have Hrf := Lib.hid hrf
    have hen := eq_nil_slice
    by_cases hkd : 1 ≤ w8 x0 ∧ w8 x0 ≤ 5
    · rw [decide_eq_true hkd] at hsome
      have hnone : A1.isNone = false := by cases A1 <;> simp at hsome ⊢
      have hrp := (HR1.out.past' 1 (by omega))
      have hn1c : (1 : Int) ≤ (n : Int) := by omega
      have hG := Lib.hid (fget_any A1 n1 c1 (fldsE (w8 x0)) _ _ _ _ w1 (flds_some _) Hrf.out hrp hn1)
      have Hz1 := Lib.hid hz1
      have Hkd := Lib.hid hkd
      clear hrf hb1 hz1 HF Hz HR HB hcz hkd
      go_wp2_with fail
      with_reducible refine hG.out.mono ?_
      rintro er w2 ⟨A2, n2, c2, v2, rfl, hgr, hb2⟩
      have hz2 := Hz1.out.ext hb2
      have Hz2 := Lib.hid hz2
      have HB2 := Lib.hid (HB1.out.trans (below_le HB1.out.size hb2))
      rcases hgr with ⟨ms, rfl, hrv, hga, _⟩ | ⟨k, hke, hga⟩
      · have hok := (getAll_inv _ _ _ (good_E _) hga).1
        have HM := Lib.hid (made_any (w8 x0) Hkd.out A2 n2 c2 ms w2 hrv hok)
        have Hga := Lib.hid (getE_vals Hkd.out (show getAll (fldsE (w8 x0)) r = _ from hga))
        clear hrv hga hok hb2 hz2 hG hrp
        go_wp2_with fail
        with_reducible refine HM.out.mono ?_
        rintro er w3 ⟨x, A3, n3, c3, v3, rfl, hm3, hb3⟩
        obtain ⟨hx3, hr3, hp3, hv3⟩ := hm3
        have hst3 := stE_newAt w3 w3.heap.size rfl x.kind x.topic x.group x.part x.parts x.first x.off x.bat.time x.bat.prod x.bat.seq A3 n3 c3 #[.int .i64 0, .string ⟨#[]⟩, .string ⟨#[]⟩, .int .i64 0, .int .i64 0, .int .i64 0, .int .i64 0, .int .i64 0, .int .i64 0, .int .i64 0, .slice none 0 0] rfl
        have hbn3 := below_new w3 (.cells #[.int .i64 x.kind, .string x.topic, .string x.group, .int .i64 x.part, .int .i64 x.parts, .int .i64 x.first, .int .i64 x.off, .int .i64 x.bat.time, .int .i64 x.bat.prod, .int .i64 x.bat.seq, .slice A3 n3 c3] 121)
        have hk3 := Bk.made w3 121 #[.int .i64 x.kind, .string x.topic, .string x.group, .int .i64 x.part, .int .i64 x.parts, .int .i64 x.first, .int .i64 x.off, .int .i64 x.bat.time, .int .i64 x.bat.prod, .int .i64 x.bat.seq, .slice A3 n3 c3]
        have hld3 := ldE_bk hk3
        have hz3 := (Hz2.out.ext hb3).ext hbn3
        have HB3 := Lib.hid ((HB2.out.trans (below_le HB2.out.size hb3)).trans (below_le (Nat.le_trans HB2.out.size hb3.size) hbn3))
        have HR3 := Lib.hid (RdT.ext hr3 hbn3)
        have Hx3 := Lib.hid hx3
        have Hp3 := Lib.hid hp3
        have HK3 := Lib.hid hk3
        have Hz3 := Lib.hid hz3
        have Hw2 := Lib.hid Hz2.out.lt
        clear hx3 hr3 hp3 hbn3 hk3 hb3 HM
        rcases hv3 with ⟨rfl, hbad⟩ | ⟨d, e, hke, hbad⟩
        · obtain ⟨rr, hrr⟩ : ∃ rr, rightE x = rr := ⟨_, rfl⟩
          have HRt := Lib.hid (eRight_any x A3 n3 c3 _ HR3.out rr hrr)
          have Hge := Lib.hid Hga.out
          have hg2 := Hga.out
          rw [hbad, ← Hx3.out, hrr] at hg2
          have Hg2 := Lib.hid hg2
          clear hg2 hrr hbad hz3
          cases rr
          · go_wp2_with fail
            with_reducible refine HRt.out.mono ?_
            rintro er w4 ⟨rfl, hb4⟩
            have hz4 := Hz3.out.ext hb4
            have hst := stE_row hz4 rfl 0 ⟨#[]⟩ ⟨#[]⟩ 0 0 0 0 0 0 0 none 0 0
            have Hz4 := Lib.hid hz4
            have HB4 := Lib.hid (HB3.out.trans (below_le HB3.out.size hb4))
            clear hld3 hst3 hz4 hb4
            go_wp2_with (first | (go_at_call 39; refine (wrap_err (.no 2) _ _ _).mono ?_; rintro er w5 ⟨v5, rfl, he5, rfl⟩) | fail)
            exact bodyPost_ret (res_ent (u := 3) rfl _ _ w.heap.size 0 ⟨#[]⟩ ⟨#[]⟩ 0 0 0 0 0 0 0 none 0 0 rfl (Bk.row Hz4.out _)) rfl ⟨noE, none, 0, 0, v5, rfl, ⟨RdT.nil _, .inr ⟨rfl, 0, 2, by omega, he5, by rw [Hg2.out]; rfl⟩⟩, below_row HB4.out HB4.out.size (Nat.le_refl _) _, fun ad h => by cases h⟩
          · go_wp2_with fail
            with_reducible refine HRt.out.mono ?_
            rintro er w4 ⟨rfl, hb4⟩
            have hz4 := Hz3.out.ext hb4
            have hld4 := ldE_bk (HK3.out.ext hb4)
            have hst := stE_row hz4 rfl x.kind x.topic x.group x.part x.parts x.first x.off x.bat.time x.bat.prod x.bat.seq A3 n3 c3
            have Hz4 := Lib.hid hz4
            have HB4 := Lib.hid (HB3.out.trans (below_le HB3.out.size hb4))
            have HR4 := Lib.hid (HR3.out.ext hb4)
            clear hld3 hst3 hz4 hb4
            go_wp2_with fail
            refine bodyPost_ret (res_ent (u := 3) rfl _ _ w.heap.size x.kind x.topic x.group x.part x.parts x.first x.off x.bat.time x.bat.prod x.bat.seq A3 n3 c3 rfl (Bk.row Hz4.out _)) rfl ⟨x, A3, n3, c3, .nilIface, rfl, ⟨RdT.kept HR4.out (grown_row _ _ _) (fun ad e e2 => ?_), .inl ⟨rfl, by rw [Hg2.out]; rfl⟩⟩, below_row HB4.out HB4.out.size (Nat.le_refl _) _, fun ad e => Nat.le_trans HB2.out.size (Hp3.out ad e)⟩
            have h1 := Hp3.out ad e
            have h2 := Hw2.out
            have := Option.some.inj e2
            omega
        · have hen3 := hke.ne
          have heg3 := hke.guardN 45
          have hst := stE_row hz3 rfl 0 ⟨#[]⟩ ⟨#[]⟩ 0 0 0 0 0 0 0 none 0 0
          have hg2 := Hga.out
          rw [hbad] at hg2
          have Hg2 := Lib.hid hg2
          clear hg2 hbad hke hz3
          go_wp2_with (first | (go_at_call 39; refine (wrap_err (.no 2) _ _ _).mono ?_; rintro er w5 ⟨v5, rfl, he5, rfl⟩) | fail)
          exact bodyPost_ret (res_ent (u := 3) rfl _ _ w.heap.size 0 ⟨#[]⟩ ⟨#[]⟩ 0 0 0 0 0 0 0 none 0 0 rfl (Bk.row Hz3.out _)) rfl ⟨noE, none, 0, 0, v5, rfl, ⟨RdT.nil _, .inr ⟨rfl, 0, 2, by omega, he5, by rw [Hg2.out]; rfl⟩⟩, below_row HB3.out HB3.out.size (Nat.le_refl _) _, fun ad h => by cases h⟩
      · have hen2 := hke.ne
        have heg2 := hke.guardN 34
        have hst := stE_row hz2 rfl 0 ⟨#[]⟩ ⟨#[]⟩ 0 0 0 0 0 0 0 none 0 0
        have Hke := Lib.hid hke
        have Hga := Lib.hid (getE_err Hkd.out (show getAll (fldsE (w8 x0)) r = .error k from hga))
        clear hke hga hb2 hz2 hG hrp
        go_wp2_with (first | (go_at_call 39; refine (wrap_err Hke.out _ _ _).mono ?_; rintro er w5 ⟨v5, rfl, he5, rfl⟩) | fail)
        exact bodyPost_ret (res_ent (u := 3) rfl _ _ w.heap.size 0 ⟨#[]⟩ ⟨#[]⟩ 0 0 0 0 0 0 0 none 0 0 rfl (Bk.row Hz2.out _)) rfl ⟨noE, none, 0, 0, v5, rfl, ⟨RdT.nil _, .inr ⟨rfl, 1, k, by omega, he5, Hga.out⟩⟩, below_row HB2.out HB2.out.size (Nat.le_refl _) _, fun ad h => by cases h⟩
    · rw [decide_eq_false hkd] at hsome
      have hnone : A1.isNone = true := by cases A1 <;> simp at hsome ⊢
      have hge : Hid (getE (x0 :: r) = .error 2) := getE_none (by omega)
      have hst := stE_row hz1 rfl 0 ⟨#[]⟩ ⟨#[]⟩ 0 0 0 0 0 0 0 none 0 0
      have Hz1 := Lib.hid hz1
      clear hrf hb1 hz1 HF Hz HR HB hcz hkd
      go_wp2_with (first | (go_at_call 39; refine (wrap_err (.no 2) _ _ _).mono ?_; rintro er w4 ⟨v4, rfl, he4, rfl⟩) | fail)
      exact bodyPost_ret (res_ent (u := 3) rfl _ _ w.heap.size 0 ⟨#[]⟩ ⟨#[]⟩ 0 0 0 0 0 0 0 none 0 0 rfl (Bk.row Hz1.out _)) rfl ⟨noE, none, 0, 0, v4, rfl, ⟨RdT.nil _, .inr ⟨rfl, 0, 2, by omega, he4, hge.out⟩⟩, below_row HB1.out HB1.out.size (Nat.le_refl _) _, fun ad h => by cases h⟩
end Go.Proofs.YtkdlofgfkfhofaaGreatDoor

/-
  ask: body.
-/
namespace Go.Proofs.YtkdlofgfkfhofaaGreatDoor
open Go.RowKit
attribute [local go_sem ↓] ldB_eq stB_eq ldE_eq stE_eq ldA_eq stA_eq sliced_past
attribute [local go_sem] pastA_zero pastA_some w8_nn w8_256 wrap_i64_w8 wrap64_w8

/-- what body hands back -/
def BodyR (B : Nat) (k : UInt8) (l : List UInt8) (w' : World) (x : Ask) (A : Option Addr) (n c : Nat) (v : Value) : Prop :=
  RdT w' A n c x.bat.vals ∧ (∀ ad, A = some ad → B ≤ ad.block) ∧ ((v = .nilIface ∧ bodyA k l = .ok x) ∨ (∃ d e, d ≤ 2 ∧ IsErr d v e ∧ bodyA k l = .error e))
set_option maxRecDepth 100000 in
set_option maxHeartbeats 4000000 in
theorem body_any (k : UInt8) (A : Option Addr) (n c : Nat) (l : List UInt8) (w : World) (hr : RdB w A n c l) (hn : n ≤ 1000000) :
    Calls Tryz.prog 40 #[.int .i64 (w8 k), .slice A n c] w fun er w' => ∃ (x : Ask) (A' : Option Addr) (n' c' : Nat) (v : Value), er = .returned (.tuple #[.agg #[.int .i64 x.corr, .int .i64 x.kind, .string x.topic, .string x.group, .int .i64 x.part, .int .i64 x.parts, .int .i64 x.first, .int .i64 x.off, .int .i64 x.most, .int .i64 x.time, .int .i64 x.bat.time, .int .i64 x.bat.prod, .int .i64 x.bat.seq, .slice A' n' c'], v]) ∧ BodyR w.heap.size k l w' x A' n' c' v ∧ Below w.heap.size w w' := by
  have hz := Bk.made w 32 #[.int .i64 0, .int .i64 0, .string ⟨#[]⟩, .string ⟨#[]⟩, .int .i64 0, .int .i64 0, .int .i64 0, .int .i64 0, .int .i64 0, .int .i64 0, .int .i64 0, .int .i64 0, .int .i64 0, .slice none 0 0]
  have hbn := below_new w (.cells #[.int .i64 0, .int .i64 0, .string ⟨#[]⟩, .string ⟨#[]⟩, .int .i64 0, .int .i64 0, .int .i64 0, .int .i64 0, .int .i64 0, .int .i64 0, .int .i64 0, .int .i64 0, .int .i64 0, .slice none 0 0] 32)
  have HW := Lib.hid (writes_any (w8 k) (w.alloc (.cells #[.int .i64 0, .int .i64 0, .string ⟨#[]⟩, .string ⟨#[]⟩, .int .i64 0, .int .i64 0, .int .i64 0, .int .i64 0, .int .i64 0, .int .i64 0, .int .i64 0, .int .i64 0, .int .i64 0, .slice none 0 0] 32)))
  have Hz := Lib.hid hz
  have HB := Lib.hid hbn
  have HR := Lib.hid (hr.ext hbn)
  clear hz hbn hr
  go_enter Tryz.func40, Tryz.ntmps40
  go_wp2_with fail
  with_reducible refine HW.out.mono ?_
  rintro er w1 ⟨rfl, rfl⟩
  clear HW
  have hlt : w.heap.size < (w.alloc (.cells #[.int .i64 0, .int .i64 0, .string ⟨#[]⟩, .string ⟨#[]⟩, .int .i64 0, .int .i64 0, .int .i64 0, .int .i64 0, .int .i64 0, .int .i64 0, .int .i64 0, .int .i64 0, .int .i64 0, .slice none 0 0] 32)).heap.size := by simp
  generalize w.alloc (.cells #[.int .i64 0, .int .i64 0, .string ⟨#[]⟩, .string ⟨#[]⟩, .int .i64 0, .int .i64 0, .int .i64 0, .int .i64 0, .int .i64 0, .int .i64 0, .int .i64 0, .int .i64 0, .int .i64 0, .slice none 0 0] 32) = w1 at Hz HB HR hlt ⊢
  cases hw : writK (w8 k)
  · have Hw := Lib.hid hw
    clear hw
    have HF := Lib.hid (afields_any (w8 k) w1)
    go_wp2_with fail
    with_reducible refine HF.out.mono ?_
    rintro er w2 ⟨A2, n2, c2, ok, rfl, hok, hrf, hn2, hb2⟩
    have hz := Hz.out.ext hb2
    have HB2 := Lib.hid (HB.out.trans (below_le HB.out.size hb2))
    have HR2 := Lib.hid (HR.out.ext hb2)
    have Hok := Lib.hid hok
    cases ok
    · have hst := stA_row hz rfl 0 0 ⟨#[]⟩ ⟨#[]⟩ 0 0 0 0 0 0 0 0 0 none 0 0
      have Hz2 := Lib.hid hz
      clear hok hrf hb2 HF hz hlt
      go_wp2_with fail
      refine bodyPost_ret (res_ask (u := 5) rfl _ _ w.heap.size 0 0 ⟨#[]⟩ ⟨#[]⟩ 0 0 0 0 0 0 0 0 0 none 0 0 rfl (Bk.row Hz2.out _)) rfl ⟨noA, none, 0, 0, noV 2, rfl, ⟨RdT.nil _, (fun ad h => by cases h), .inr ⟨0, 2, by omega, .no 2, ?_⟩⟩, below_row HB2.out HB2.out.size (Nat.le_refl _) _⟩
      unfold bodyA
      rw [if_neg (by rw [Hw.out]; decide), if_neg (by rw [← Hok.out]; decide)]
    · have HG := Lib.hid (fget_any A2 n2 c2 (fldsA (w8 k)) A n c l w2 (fldsA_some _) hrf HR2.out hn2)
      have Hz2 := Lib.hid hz
      clear hok hrf hb2 HF hz
      go_wp2_with fail
      with_reducible refine HG.out.mono ?_
      rintro er w3 ⟨A3, n3, c3, v3, rfl, hgr, hb3⟩
      have hz := Hz2.out.ext hb3
      have HB3 := Lib.hid (HB2.out.trans (below_le HB2.out.size hb3))
      rcases hgr with ⟨ms, rfl, hrv, hga, _⟩ | ⟨e3, hke, hga⟩
      · have hok2 := (getAll_inv _ _ _ (good_A _) hga).1
        have HM := Lib.hid (amade_any (w8 k) Hok.out.symm A3 n3 c3 ms w3 hrv hok2)
        have Hga := Lib.hid hga
        have Hz3 := Lib.hid hz
        clear hb3 hz hrv hga hok2 HG hlt
        go_wp2_with fail
        with_reducible refine HM.out.mono ?_
        rintro er w4 ⟨x, rfl, hx, hxv, hb4⟩
        have hz := Hz3.out.ext hb4
        have hst := stA_row hz rfl x.corr x.kind x.topic x.group x.part x.parts x.first x.off x.most x.time x.bat.time x.bat.prod x.bat.seq none 0 0
        have Hz4 := Lib.hid hz
        have HB4 := Lib.hid (HB3.out.trans (below_le HB3.out.size hb4))
        have Hx := Lib.hid hx
        have Hxv := Lib.hid hxv
        clear hb4 hz hx hxv HM
        go_wp2_with fail
        refine bodyPost_ret (res_ask (u := 5) rfl _ _ w.heap.size x.corr x.kind x.topic x.group x.part x.parts x.first x.off x.most x.time x.bat.time x.bat.prod x.bat.seq none 0 0 rfl (Bk.row Hz4.out _)) rfl ⟨x, none, 0, 0, .nilIface, rfl, ⟨by rw [Hxv.out]; exact RdT.nil _, (fun ad h => by cases h), .inl ⟨rfl, ?_⟩⟩, below_row HB4.out HB4.out.size (Nat.le_refl _) _⟩
        unfold bodyA
        rw [if_neg (by rw [Hw.out]; decide), if_pos Hok.out.symm, Hga.out, Hx.out]
      · have hne := hke.ne
        have hgu := hke.guardN 56
        have hst := stA_row hz rfl 0 0 ⟨#[]⟩ ⟨#[]⟩ 0 0 0 0 0 0 0 0 0 none 0 0
        have Hz3 := Lib.hid hz
        have Hke := Lib.hid hke
        have Hga := Lib.hid hga
        clear hb3 hz hke hga HG hlt
        go_wp2_with fail
        refine bodyPost_ret (res_ask (u := 5) rfl _ _ w.heap.size 0 0 ⟨#[]⟩ ⟨#[]⟩ 0 0 0 0 0 0 0 0 0 none 0 0 rfl (Bk.row Hz3.out _)) rfl ⟨noA, none, 0, 0, v3, rfl, ⟨RdT.nil _, (fun ad h => by cases h), .inr ⟨1, e3, by omega, Hke.out, ?_⟩⟩, below_row HB3.out HB3.out.size (Nat.le_refl _) _⟩
        unfold bodyA
        rw [if_neg (by rw [Hw.out]; decide), if_pos Hok.out.symm, Hga.out]
  · have Hw := Lib.hid hw
    clear hw
    have hkk : w8 k % 256 = w8 k := by have := w8_lt k; omega
    have hown : OwnB (w1.alloc (.cells #[.int .u8 (w8 k)] 5)) w1.heap.size (.slice (some ⟨w1.heap.size, 0, none⟩) 1 1) [k] :=
      ((show Bb (w1.alloc (.cells #[.int .u8 (w8 k)] 5)) w1.heap.size 5 [k] from Bk.made w1 5 _).owns (n := 1) rfl (by omega)).own (Nat.le_refl _) 1 rfl
    have Hown := Lib.hid hown
    have hbo := Lib.hid (below_new w1 (.cells #[.int .u8 (w8 k)] 5))
    have HRo := Lib.hid (HR.out.ext hbo.out)
    clear hown
    go_wp2_with (first | (at_builtin; go_loud (refine wpList_append_bytes rfl (.tmp 17) (.tmp 18) rfl w1.heap.size w1 _ [k] rfl Hown.out A n c l rfl HRo.out (by simp; omega) hbo.out hbo.out.size (1 + n) (by simp) ?_; intro A2 c2 w2 ho2 hb2 hs2; have HR2 := Lib.hid (show RdB w2 A2 (1 + n) c2 (k :: l) from ho2.out.rd); have Hb2 := Lib.hid hb2; clear ho2 hb2)) | fail)
    have HG := Lib.hid (eget_prov A2 (1 + n) c2 (k :: l) w2 HR2.out)
    with_reducible refine HG.out.mono ?_
    rintro er w3 ⟨x, A3, n3, c3, v3, rfl, hg3, hb3, hp3⟩
    obtain ⟨hr3, hv3⟩ := hg3
    have hst3 := stE_newAt w3 w3.heap.size rfl x.kind x.topic x.group x.part x.parts x.first x.off x.bat.time x.bat.prod x.bat.seq A3 n3 c3 #[.int .i64 0, .string ⟨#[]⟩, .string ⟨#[]⟩, .int .i64 0, .int .i64 0, .int .i64 0, .int .i64 0, .int .i64 0, .int .i64 0, .int .i64 0, .slice none 0 0] rfl
    have hbn3 := below_new w3 (.cells #[.int .i64 x.kind, .string x.topic, .string x.group, .int .i64 x.part, .int .i64 x.parts, .int .i64 x.first, .int .i64 x.off, .int .i64 x.bat.time, .int .i64 x.bat.prod, .int .i64 x.bat.seq, .slice A3 n3 c3] 121)
    have hk3 := Bk.made w3 121 #[.int .i64 x.kind, .string x.topic, .string x.group, .int .i64 x.part, .int .i64 x.parts, .int .i64 x.first, .int .i64 x.off, .int .i64 x.bat.time, .int .i64 x.bat.prod, .int .i64 x.bat.seq, .slice A3 n3 c3]
    have hlb3 := ldB_of_ent hk3
    have hbz := Hb2.out.trans (below_le hs2 (hb3.trans (below_le hb3.size hbn3)))
    have hz := Hz.out.ext hbz
    have hst := stA_row hz rfl 0 x.kind x.topic x.group x.part x.parts x.first x.off 0 0 x.bat.time x.bat.prod x.bat.seq A3 n3 c3
    have Hz3 := Lib.hid hz
    have HB3 := Lib.hid (HB.out.trans (below_le HB.out.size hbz))
    have HR3 := Lib.hid (RdT.ext hr3 hbn3)
    have Hp3 := Lib.hid hp3
    have Hv3 := Lib.hid hv3
    clear hr3 hv3 hb3 hp3 hbn3 hk3 hbz hz HG
    go_wp2_with fail
    refine bodyPost_ret (res_ask (u := 5) rfl _ _ w.heap.size 0 x.kind x.topic x.group x.part x.parts x.first x.off 0 0 x.bat.time x.bat.prod x.bat.seq A3 n3 c3 rfl (Bk.row Hz3.out _)) rfl ⟨ofE x, A3, n3, c3, v3, rfl, ⟨RdT.kept HR3.out (grown_row _ _ _) (fun ad e e2 => ?_), (fun ad e => Nat.le_trans (Nat.le_of_lt (Nat.lt_of_lt_of_le hlt hs2)) (Hp3.out ad e)), ?_⟩, below_row HB3.out HB3.out.size (Nat.le_refl _) _⟩
    · have h1 := Hp3.out ad e
      have := Option.some.inj e2
      omega
    · rcases Hv3.out with ⟨h1, h2⟩ | ⟨_, d, e, h1, h2, h3⟩
      · refine .inl ⟨h1, ?_⟩
        unfold bodyA
        rw [if_pos Hw.out, h2]
      · refine .inr ⟨d + 1, e, by omega, h2, ?_⟩
        unfold bodyA
        rw [if_pos Hw.out, h3]
end Go.Proofs.YtkdlofgfkfhofaaGreatDoor
