import Derived.Test.YtjodiieeocaipaaGreatDoorSDdz
import Derived.Deep.RegionHeld3
/-
  stavelaw21: StateApart.
-/
namespace Go.Proofs.YtjodiieeocaipaaGreatDoor
open Go.RowKit Go.Maps
attribute [local go_sem ↓] ldE_eq stE_eq ldD_eq stD_eq ldQ_eq

set_option maxRecDepth 100000 in
set_option maxHeartbeats 2000000 in
theorem stApart_any (A : Option Addr) (n c : Nat) (l : Nat → Dd) (f : Int) (hf : -9223372036854775808 ≤ f ∧ f ≤ 9223372036854775807) (w : World) (hr : RdQ w A n c l) (hl : ErrLaid w) :
    Calls Tryz.prog 6 #[.slice A n c, .int .i64 f] w fun e w' => e = .returned (.bool true) ∧ Below w.heap.size w w' := by
  obtain ⟨M1, M2, M3, P0, g1, g2, g3, hZ0, h7, h8⟩ := zstart
  have HN := Lib.hid (run_new w)
  have HLd := Lib.hid hl
  have HRD := Lib.hid hr
  have G1 := Lib.hid g1
  have G2 := Lib.hid g2
  have G3 := Lib.hid g3
  have HZ0 := Lib.hid hZ0
  have H78 := Lib.hid (And.intro h7 h8)
  obtain ⟨ff, hff⟩ : ∃ ff, within f 0 99 = ff := ⟨_, rfl⟩
  have hf2 := within_in f 0 99 (by omega)
  rw [hff] at hf2
  have HWf : Hid (∀ v, Calls Tryz.prog 14 #[.int .i64 f, .int .i64 0, .int .i64 99] v fun e w' => e = .returned (.int .i64 ff) ∧ v = w') := fun v => by
    rw [← hff]
    exact within_any f 0 99 v (by omega) (by omega) (by omega) hf.1 hf.2
  clear hl hr g1 g2 g3 hZ0 h7 h8 hf hff
  go_enter Tryz.func6, Tryz.ntmps6
  go_wp2_with fail
  with_reducible refine HN.out.mono ?_
  rintro er w1 ⟨s, rfl, hr1⟩
  have R0 := Lib.hid hr1
  clear hr1 HN
  go_wp2_with fail
  refine (run_step R0.out (by omega) (entZ 7) none 0 0 (RdT.nil _) 0 0 G1.out).mono ?_
  rintro er z1 ⟨v1, rfl, hv1, hr1, ht1⟩
  obtain rfl := nil_of hv1
  clear hv1
  obtain ⟨hst1, hkn1, hbx1⟩ := box_done z1 (0) (0) false
  have R1 := Lib.hid ((hr1.ext hbx1).less (K' := fun _ => False) (fun _ h => .inl h))
  clear hr1 ht1 hkn1 hbx1 R0 
  go_upto_region 7 with fail
  generalize (z1.alloc (.cells #[.int .i64 0, .int .i64 0, .bool false] 25)).setRow z1.heap.size #[.int .i64 (0), .int .i64 (0), .bool false] = X1 at R1 ⊢
  clear hst1
  have hq1 := Bk.made X1 9 #[.string ⟨#[113]⟩]
  have hb1 := below_new X1 (.cells #[.string ⟨#[113]⟩] 9)
  have hz1 := Bk.made (X1.alloc (.cells #[.string ⟨#[113]⟩] 9)) 34 #[.int .i64 0, .string ⟨#[]⟩, .string ⟨#[]⟩, .int .i64 0, .int .i64 0, .int .i64 0, .int .i64 0, .int .i64 0, .int .i64 0, .int .i64 0, .slice none 0 0]
  have hb2 := below_new (X1.alloc (.cells #[.string ⟨#[113]⟩] 9)) (.cells #[.int .i64 0, .string ⟨#[]⟩, .string ⟨#[]⟩, .int .i64 0, .int .i64 0, .int .i64 0, .int .i64 0, .int .i64 0, .int .i64 0, .int .i64 0, .slice none 0 0] 34)
  have hst := stE_row hz1 rfl 3 ⟨#[122]⟩ ⟨#[]⟩ 0 0 0 0 0 1 0 (some ⟨X1.heap.size, 0, none⟩) 1 1
  have hs1 : (X1.alloc (.cells #[.string ⟨#[113]⟩] 9)).heap.size = X1.heap.size + 1 := by simp
  have hz2 := hz1.row (rowZ X1.heap.size)
  have hb3 := below_row hb2 hb2.size (Nat.le_refl _) (rowZ X1.heap.size)
  have hq2 := hq1.ext hb3
  have hb4 := hb1.trans (below_le hb1.size hb3)
  rw [hs1] at hst hz2 hq2 hb4
  unfold rowZ at hz2 hq2 hb4
  have HZ2 := Lib.hid hz2
  have HQ2 := Lib.hid hq2
  have RB := Lib.hid (R1.out.ext hb4)
  have HGl : Hid (w.heap.size ≤ X1.heap.size) := R1.out.below.size
  have hsz := hz2.lt
  have HSz := Lib.hid hsz
  clear hq1 hb1 hz1 hb2 hs1 hz2 hb3 hq2 hb4 hsz
  go_upto_region 8 with fail
  clear hst
  generalize ((X1.alloc (.cells #[.string ⟨#[113]⟩] 9)).alloc (.cells #[.int .i64 0, .string ⟨#[]⟩, .string ⟨#[]⟩, .int .i64 0, .int .i64 0, .int .i64 0, .int .i64 0, .int .i64 0, .int .i64 0, .int .i64 0, .slice none 0 0] 34)).setRow (X1.heap.size + 1) #[.int .i64 3, .string ⟨#[122]⟩, .string ⟨#[]⟩, .int .i64 0, .int .i64 0, .int .i64 0, .int .i64 0, .int .i64 0, .int .i64 1, .int .i64 0, .slice (some ⟨X1.heap.size, 0, none⟩) 1 1] = Xq at HZ2 HQ2 RB HSz ⊢
  obtain ⟨gz, hgz⟩ : ∃ g, g = X1.heap.size + 1 := ⟨_, rfl⟩
  obtain ⟨gq, hgq⟩ : ∃ g, g = X1.heap.size := ⟨_, rfl⟩
  have Rq : Hid (Run w Xq s (0 + 1) M1 (fun i => i = gz ∨ i = gq)) := RB.out.less (fun i h => by
    have := HSz.out
    rcases h with rfl | rfl
    · exact .inr ⟨by omega, by omega⟩
    · exact .inr ⟨by omega, by omega⟩)
  rw [← hgz] at HZ2 ⊢
  rw [← hgq] at HZ2 HQ2 ⊢
  have HZ3 : Hid (Bk Xq gz 34 (rowZ gq)) := HZ2
  have HQ3 : Hid (Bk Xq gq 9 #[.string ⟨#[113]⟩]) := HQ2
  clear HZ2 HQ2 RB HSz HGl R1
  have hld2 := ldE_rowZ HZ3.out
  clear hgz hgq
  go_wp2_with fail
  refine (run_step Rq.out (by omega) entZP (some ⟨gq, 0, none⟩) 1 1 (RdT.bk HQ3.out) 0 1 G2.out).mono ?_
  rintro er z2 ⟨v2, rfl, hv2, hr2, ht2⟩
  obtain rfl := nil_of hv2
  clear hv2
  obtain ⟨hst2, hkn2, hbx2⟩ := box_done z2 (7) (1) false
  have HZ4 := Lib.hid ((HZ3.out.turned ht2 (fun hx => hx.2 (.inl rfl))).ext hbx2)
  have HQ4 := Lib.hid ((HQ3.out.turned ht2 (fun hx => hx.2 (.inr rfl))).ext hbx2)
  have R2 := Lib.hid ((hr2.ext hbx2).less (K' := fun i => i = gz ∨ i = gq) (fun _ h => .inl h))
  clear hr2 ht2 hkn2 hbx2 Rq HZ3 HQ3
  go_upto_region 11 with fail
  generalize (z2.alloc (.cells #[.int .i64 0, .int .i64 0, .bool false] 25)).setRow z2.heap.size #[.int .i64 (7), .int .i64 (1), .bool false] = X2 at R2 HZ4 HQ4 ⊢
  clear hst2
  clear hld2
  go_wp2_with fail
  refine (run_step R2.out (by omega) entZM none 0 0 (RdT.nil _) 0 2 G3.out).mono ?_
  rintro er z3 ⟨v3, rfl, hv3, hr3, ht3⟩
  obtain rfl := nil_of hv3
  clear hv3
  obtain ⟨hst3, hkn3, hbx3⟩ := box_done z3 (0) (0) false
  have HZ5 := Lib.hid ((HZ4.out.turned ht3 (fun hx => hx.2 (.inl rfl))).ext hbx3)
  have HQ5 := Lib.hid ((HQ4.out.turned ht3 (fun hx => hx.2 (.inr rfl))).ext hbx3)
  have R3 := Lib.hid ((hr3.ext hbx3).less (K' := fun i => i = gz ∨ i = gq) (fun _ h => .inl h))
  clear hr3 ht3 hkn3 hbx3 R2 HZ4 HQ4
  go_upto_region 14 with fail
  generalize (z3.alloc (.cells #[.int .i64 0, .int .i64 0, .bool false] 25)).setRow z3.heap.size #[.int .i64 (0), .int .i64 (0), .bool false] = X3 at R3 HZ5 HQ5 ⊢
  clear hst3
  have HI : Hid (ApI w X3 s gz gq 0) := ⟨_, M3, P0, by omega, R3.out, HZ0.out, H78.out.1, H78.out.2, HZ5.out, HQ5.out⟩
  clear HZ5 HQ5 G1 G2 G3 HZ0 H78 R3
  go_wp2_with fail
  go_loopw [13] (fun i wr => ∃ k : Nat, k ≤ n ∧ k ≤ 30 ∧ i = .int .i64 k ∧ Hid (ApI w wr s gz gq k)) (fun i _ => n - (intOf i).toNat)
  case atStart => exact ⟨0, by omega, by omega, rfl, HI⟩
  case round =>
    obtain ⟨k, hkn, hk30, rfl, hInv⟩ := hrel
    clear HI
    by_cases hin : k < n ∧ k < 30
    · obtain ⟨hlt, hlt3⟩ := hin
      have hi : (k : Int) < n := by omega
      have hi3 : (k : Int) < 30 := by omega
      have hrd := HRD.out.ext hInv.out.below (Nat.le_refl _)
      obtain ⟨ad, rfl, hadl, hce⟩ := hrd.cell k hlt
      have hld := hrd.load hlt
      have HOk := Lib.hid (hrd.ok k hlt)
      clear hadl hce hrd
      go_wp2_with (first | (go_at_call 15; go_loud (with_reducible refine (kentry_any (l k) HOk.out wr).mono ?_); go_loud (rintro er w3 ⟨A3, n3, c3, rfl, hr3, hb3⟩); have HR3 := Lib.hid hr3; have HB3 := Lib.hid hb3; clear hr3 hb3) | (go_at_call 11; with_reducible refine (hInv.out.step hlt3 HB3.out (l k) A3 n3 c3 HR3.out (k : Int)).mono ?_; rintro er w4 ⟨a4, v4, rfl, hI4⟩; have HI4 := Lib.hid hI4; clear hI4) | fail)
      exact ⟨⟨k + 1, by omega, by omega, by go_num, HI4⟩, by simp [intOf]; omega⟩
    · have hcase : ((k : Int) < n ∧ ¬ (k : Int) < 30) ∨ ¬ (k : Int) < n := by omega
      obtain ⟨N, M, P, hN, hR, hZ, h7, h8, hz, hq⟩ := hInv.out
      have hN40 : N ≤ 40 := by omega
      have R4 := Lib.hid hR
      have HZ4 := Lib.hid hZ
      have HKz := Lib.hid hz
      have HKq := Lib.hid hq
      have HLg := Lib.hid (show Calls Tryz.prog 17 #[.pointer (some ⟨s, 0, none⟩), .string ⟨#[122]⟩, .int .i64 0] wr _ from run_log hR zN (by decide) 0 (part_find hZ.top))
      have hmk := run_marked hR aN zN (by decide) (by decide) 0 (by decide)
      rw [show markOf M.grp (mkey aN zN 0) = 4 from by unfold markOf; rw [hZ.mark], hZ.has] at hmk
      have HMk : Hid (Calls Tryz.prog 16 #[.pointer (some ⟨s, 0, none⟩), .string ⟨#[97]⟩, .string ⟨#[122]⟩, .int .i64 0] wr fun e w' => e = .returned (.tuple #[.int .i64 4, .bool true]) ∧ wr = w') := hmk
      obtain ⟨M5, M6, M7, g5, g6, g7, hno⟩ := zend2 hR hZ hf2.1 (by omega)
      have H78 := Lib.hid (And.intro h7 h8)
      have G5 := Lib.hid g5
      have G6 := Lib.hid g6
      have G7 := Lib.hid g7
      have HNo := Lib.hid hno
      clear hR hZ h7 h8 hz hq hmk g5 g6 g7 hno hInv hkn hk30 hin hN
      rcases hcase with ⟨hi1, hi2⟩ | hi1
      all_goals
        go_wp2_with (first | (go_at_call 17; go_loud (with_reducible refine HLg.out.mono ?_); go_loud (rintro er w4 ⟨lb, Q, rfl, hla, hqb, rfl⟩); have hst4 := logStart_any hla; have hnx4 := logNext_any hla; rw [H78.out.1] at hst4; rw [H78.out.2] at hnx4; have HSt4 := Lib.hid hst4; have HNx4 := Lib.hid hnx4; clear hla hqb hst4 hnx4) | (go_at_call 16; go_loud (with_reducible refine HMk.out.mono ?_); rintro er w5 ⟨rfl, rfl⟩) | (go_at_call 20; go_loud (with_reducible refine HSt4.out.mono ?_); rintro er w5 ⟨rfl, rfl⟩) | (go_at_call 18; go_loud (with_reducible refine HNx4.out.mono ?_); rintro er w5 ⟨rfl, rfl⟩) | fail)
        skip
        refine (run_step R4.out (by omega) entZD none 0 0 (RdT.nil _) 2 0 G5.out).mono ?_
        rintro er z5 ⟨v5, rfl, hv5, hr5, ht5⟩
        obtain rfl := nil_of hv5
        clear hv5
        obtain ⟨hst5, hkn5, hbx5⟩ := box_done z5 (0) (0) false
        have HKz5 := Lib.hid ((HKz.out.turned ht5 (fun hx => hx.2 (.inl rfl))).ext hbx5)
        have HKq5 := Lib.hid ((HKq.out.turned ht5 (fun hx => hx.2 (.inr rfl))).ext hbx5)
        have R5 := Lib.hid ((hr5.ext hbx5).less (K' := fun i => i = gz ∨ i = gq) (fun _ h => .inl h))
        clear hr5 ht5 hkn5 hbx5 R4 HKz HKq
        go_upto_region 25 with fail
        generalize (z5.alloc (.cells #[.int .i64 0, .int .i64 0, .bool false] 25)).setRow z5.heap.size #[.int .i64 (0), .int .i64 (0), .bool false] = X5 at R5 HKz5 HKq5 ⊢
        clear hst5
        go_wp2_with (first | (go_at_call 14; go_loud (with_reducible refine (HWf.out _).mono ?_); rintro er w5 ⟨rfl, rfl⟩) | fail)
        refine (run_step R5.out (by omega) (entZ ff) none 0 0 (RdT.nil _) 2 1 G6.out).mono ?_
        rintro er z6 ⟨v6, rfl, hv6, hr6, ht6⟩
        obtain rfl := nil_of hv6
        clear hv6
        obtain ⟨hst6, hkn6, hbx6⟩ := box_done z6 (0) (0) false
        have HKz6 := Lib.hid ((HKz5.out.turned ht6 (fun hx => hx.2 (.inl rfl))).ext hbx6)
        have HKq6 := Lib.hid ((HKq5.out.turned ht6 (fun hx => hx.2 (.inr rfl))).ext hbx6)
        have R6 := Lib.hid ((hr6.ext hbx6).less (K' := fun i => i = gz ∨ i = gq) (fun _ h => .inl h))
        clear hr6 ht6 hkn6 hbx6 R5 HKz5 HKq5
        go_upto_region 28 with fail
        generalize (z6.alloc (.cells #[.int .i64 0, .int .i64 0, .bool false] 25)).setRow z6.heap.size #[.int .i64 (0), .int .i64 (0), .bool false] = X6 at R6 HKz6 HKq6 ⊢
        clear hst6
        have hld7 := ldE_rowZ HKz6.out
        go_wp2_with fail
        refine (run_step R6.out (by omega) entZP (some ⟨gq, 0, none⟩) 1 1 (RdT.bk HKq6.out) 2 2 G7.out).mono ?_
        rintro er z7 ⟨v7, rfl, hv7, hr7, ht7⟩
        obtain rfl := nil_of hv7
        clear hv7
        obtain ⟨hst7, hkn7, hbx7⟩ := box_done z7 (ff) (1) false
        have KD := Lib.hid hkn7
        have R7 := Lib.hid ((hr7.ext hbx7).less (K' := fun i => i = gz ∨ i = gq) (fun _ h => .inl h))
        clear hr7 ht7 hkn7 hbx7 R6 
        go_upto_region 29 with fail
        generalize (z7.alloc (.cells #[.int .i64 0, .int .i64 0, .bool false] 25)).setRow z7.heap.size #[.int .i64 (ff), .int .i64 (1), .bool false] = X7 at R7 KD ⊢
        clear hst7
        clear hld7
        obtain ⟨gd, hgd⟩ : ∃ g, g = z7.heap.size := ⟨_, rfl⟩
        rw [← hgd] at KD ⊢
        clear hgd
        have hmk7 := run_marked R7.out aN zN (by decide) (by decide) 0 (by decide)
        rw [HNo.out] at hmk7
        have HMk7 : Hid (Calls Tryz.prog 16 #[.pointer (some ⟨s, 0, none⟩), .string ⟨#[97]⟩, .string ⟨#[122]⟩, .int .i64 0] X7 fun e w' => e = .returned (.tuple #[.int .i64 (markOf M7.grp (mkey aN zN 0)), .bool false]) ∧ X7 = w') := hmk7
        clear hmk7
        go_upto_region 30 with (first | (go_at_call 16; go_loud (with_reducible refine HMk7.out.mono ?_); rintro er w5 ⟨rfl, rfl⟩) | fail)
        have HBl := Lib.hid R7.out.below
        have HSr : Hid (∀ v, Below X7.heap.size X7 v → Calls Tryz.prog 3 #[] v fun e w' => e = .returned (.bool true) ∧ Below X7.heap.size X7 w') := fun v hv =>
          (stRuns_any v (ErrLaid.below HLd.out (HBl.out.trans (below_le HBl.out.size hv)))).mono fun er w' h => ⟨h.1, hv.trans (below_le hv.size h.2)⟩
        have F0 : Hid (Below X7.heap.size X7 X7.drew) := below_drew1 (Below.refl _ _)
        have FS : Hid (∀ v, Below X7.heap.size X7 v → Below X7.heap.size X7 v ∧ v.cell? ⟨gd, 2, none⟩ = some (.bool false) ∧ v.cell? ⟨gd, 0, none⟩ = some (.int .i64 ff)) := fun v hv => ⟨hv, (KD.out.ext hv).cell 2, (KD.out.ext hv).cell 0⟩
        clear HMk7 HMk HLg HSt4 HNx4 R7 HZ4 H78
        go_region_held3 (fun v => Below X7.heap.size X7 v ∧ v.cell? ⟨gd, 2, none⟩ = some (.bool false) ∧ v.cell? ⟨gd, 0, none⟩ = some (.int .i64 ff)) (first | exact FS.out _ F0.out | exact FS.out _ HB9.out) (first | (go_at_call 14; go_loud (with_reducible refine (HWf.out _).mono ?_); rintro er w5 ⟨rfl, rfl⟩) | (go_at_call 3; go_loud (with_reducible refine (HSr.out _ (by first | exact F0.out | exact (by assumption : _ ∧ _ ∧ _).1)).mono ?_); rintro er w9 ⟨rfl, hb9⟩; have HB9 := Lib.hid hb9; clear hb9) | fail)
        all_goals
          go_wp2_with fail
          go_ret
          exact ⟨rfl, HBl.out.trans (below_le HBl.out.size HB9.out)⟩
end Go.Proofs.YtjodiieeocaipaaGreatDoor

/-
  stavelaw21: StateApart, over whatever came.
-/
namespace Go.Proofs.YtjodiieeocaipaaGreatDoor
open Go.ChangeShapes Go.WideShapes Go.ChangeAt Go.RowKit
set_option maxRecDepth 100000 in
theorem stateApart_any {H : Type} {enc : TypeId × Value → H} {base : Nat} {v0 v1 : Value} {d0 d1 : DataW H} {p0 p1 : List MemPlace} (w : World) (hl : ErrLaid w) (h0 : Came enc w base 39 v0 d0 p0) (h1 : Came enc w base 3 v1 d1 p1) :
    Calls Tryz.prog 6 #[v0, v1] w fun er w' => er = .returned (.bool true) ∧ Below w.heap.size w w' := by
  obtain ⟨A, n, c, l, rfl, hr⟩ := h0.deeds
  obtain ⟨z, rfl, hz⟩ := h1.int
  exact stApart_any A n c l z hz w hr hl
end Go.Proofs.YtjodiieeocaipaaGreatDoor
