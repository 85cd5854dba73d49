import Derived.Test.YtjodiieeocaipaaGreatDoorSDdz
/-
  stavelaw21: StateMarks.
-/
namespace Go.Proofs.YtjodiieeocaipaaGreatDoor
open Go.RowKit Go.Maps
attribute [local go_sem ↓] ldE_eq stE_eq ldD_eq stD_eq ldQ_eq

/-- what StateMarks holds ahead of a round -/
def MkI (w wr : World) (s : Nat) (m q : Int) (k : Nat) : Prop := ∃ (N : Nat) (M : StM), N ≤ k + 4 ∧ Run w wr s N M (fun _ => False) ∧ MkAt M m q (1 - q)
theorem MkI.below {w wr : World} {s k : Nat} {m q : Int} (h : MkI w wr s m q k) : Below w.heap.size w wr := by
  obtain ⟨N, M, _, h, _⟩ := h
  exact h.below
/-- a round -/
theorem MkI.step {w wr w3 : World} {s k : Nat} {m q : Int} (h : MkI w wr s m q k) (hq : 0 ≤ q ∧ q ≤ 1) (hk : k < 20) (hb : Below wr.heap.size wr w3) (e : Ent) (he : zN ≠ e.topic ∨ e.kind = 3 ∨ e.kind = 5) (A : Option Addr) (n c : Nat) (hrd : RdT w3 A n c e.bat.vals) (at_ : Int) :
    Calls Tryz.prog 11 #[.pointer (some ⟨s, 0, none⟩), .agg #[.int .i64 e.kind, .string e.topic, .string e.group, .int .i64 e.part, .int .i64 e.parts, .int .i64 e.first, .int .i64 e.off, .int .i64 e.bat.time, .int .i64 e.bat.prod, .int .i64 e.bat.seq, .slice A n c], .int .i64 1, .int .i64 at_] w3
      fun er w' => ∃ a v, er = .returned (.tuple #[a, v]) ∧ MkI w w' s m q (k + 1) := by
  obtain ⟨N, M, hN, hR, hM⟩ := h
  have hR3 := (hR.ext hb).less (K' := fun _ => False) (fun _ h => .inl h)
  refine (run_step hR3 (by omega) e A n c hrd 1 at_ rfl).mono ?_
  rintro er w' ⟨v, rfl, _, h1, _⟩
  exact ⟨_, v, rfl, N + 1, _, by omega, h1, hM.step (by omega) (by omega) he _ _⟩
theorem MkI.mark {w wr : World} {s k : Nat} {m q : Int} (h : MkI w wr s m q k) (hq : 0 ≤ q ∧ q ≤ 1) :
    Calls Tryz.prog 16 #[.pointer (some ⟨s, 0, none⟩), .string ⟨#[103]⟩, .string ⟨#[122]⟩, .int .i64 q] wr fun e w' => e = .returned (.tuple #[.int .i64 m, .bool true]) ∧ wr = w' := by
  obtain ⟨N, M, hN, hR, hM⟩ := h
  have hmk := run_marked hR gN zN (by decide) (by decide) q (wf_of (by omega) (by omega))
  rw [show markOf M.grp (mkey gN zN q) = m from by unfold markOf; rw [hM.mark], hM.has] at hmk
  exact hmk
theorem MkI.unmark {w wr : World} {s k : Nat} {m q : Int} (h : MkI w wr s m q k) (hq : 0 ≤ q ∧ q ≤ 1) :
    Calls Tryz.prog 16 #[.pointer (some ⟨s, 0, none⟩), .string ⟨#[103]⟩, .string ⟨#[122]⟩, .int .i64 (1 - q)] wr fun e w' => ∃ x, e = .returned (.tuple #[.int .i64 x, .bool false]) ∧ wr = w' := by
  obtain ⟨N, M, hN, hR, hM⟩ := h
  have hmk := run_marked hR gN zN (by decide) (by decide) (1 - q) (wf_of (by omega) (by omega))
  rw [hM.no] at hmk
  exact hmk.mono fun _ _ h => ⟨_, h.1, h.2⟩
/-- an entry laid anew, its topic z -/
theorem ent_put {w : World} {G : Nat} (e : Ent) {A : Option Addr} {n c : Nat} (h : Bk w G 34 #[.int .i64 e.kind, .string e.topic, .string e.group, .int .i64 e.part, .int .i64 e.parts, .int .i64 e.first, .int .i64 e.off, .int .i64 e.bat.time, .int .i64 e.bat.prod, .int .i64 e.bat.seq, .slice A n c]) :
    Bk (w.setCell ⟨G, 1, none⟩ (.string ⟨#[122]⟩)) G 34 #[.int .i64 e.kind, .string ⟨#[122]⟩, .string e.group, .int .i64 e.part, .int .i64 e.parts, .int .i64 e.first, .int .i64 e.off, .int .i64 e.bat.time, .int .i64 e.bat.prod, .int .i64 e.bat.seq, .slice A n c] := h.put 1 _

set_option maxRecDepth 100000 in
set_option maxHeartbeats 2000000 in
theorem stMarks_any (A : Option Addr) (n c : Nat) (l : Nat → Dd) (f p : Int) (hf : -9223372036854775808 ≤ f ∧ f ≤ 9223372036854775807) (hp : -9223372036854775808 ≤ p ∧ p ≤ 9223372036854775807) (w : World) (hr : RdQ w A n c l) (hl : ErrLaid w) :
    Calls Tryz.prog 4 #[.slice A n c, .int .i64 f, .int .i64 p] w fun e w' => e = .returned (.bool true) ∧ Below w.heap.size w w' := by
  have HN := Lib.hid (run_new w)
  have HLd := Lib.hid hl
  have HRD := Lib.hid hr
  obtain ⟨m, hm⟩ : ∃ m, within f 0 1099511627776 = m := ⟨_, rfl⟩
  obtain ⟨q, hq⟩ : ∃ q, within p 0 1 = q := ⟨_, rfl⟩
  have hm2 := within_in f 0 1099511627776 (by omega)
  have hq2 := within_in p 0 1 (by omega)
  rw [hm] at hm2
  rw [hq] at hq2
  have HWf : Hid (∀ v, Calls Tryz.prog 14 #[.int .i64 f, .int .i64 0, .int .i64 1099511627776] v fun e w' => e = .returned (.int .i64 m) ∧ v = w') := fun v => by
    rw [← hm]
    exact within_any f 0 1099511627776 v (by omega) (by omega) (by omega) hf.1 hf.2
  have HWp : Hid (∀ v, Calls Tryz.prog 14 #[.int .i64 p, .int .i64 0, .int .i64 1] v fun e w' => e = .returned (.int .i64 q) ∧ v = w') := fun v => by
    rw [← hq]
    exact within_any p 0 1 v (by omega) (by omega) (by omega) hp.1 hp.2
  obtain ⟨M1, M2, g1, g2, g3, g4, hMk⟩ := mstart (n := m) (k := q) (by omega) (by omega)
  have G1 := Lib.hid g1
  have G2 := Lib.hid g2
  have G3 := Lib.hid g3
  have G4 := Lib.hid g4
  have HMk := Lib.hid hMk
  obtain ⟨q0, q1⟩ := hq2
  have HQ := Lib.hid (And.intro q0 q1)
  have HM := Lib.hid hm2
  clear hl hr g1 g2 g3 g4 hMk hf hp hm hq hm2
  go_enter Tryz.func4, Tryz.ntmps4
  go_wp2_with fail
  with_reducible refine HN.out.mono ?_
  rintro er w1 ⟨s, rfl, hr1⟩
  have R0 := Lib.hid hr1
  clear hr1 HN
  go_wp2_with fail
  refine (run_step R0.out (by omega) entZ2 none 0 0 (RdT.nil _) 0 0 G1.out).mono ?_
  rintro er z1 ⟨v1, rfl, hv1, hr1, ht1⟩
  obtain rfl := nil_of hv1
  clear hv1
  obtain ⟨hst1, hkn1, hbx1⟩ := box_done z1 (0) (0) false
  have R1 := Lib.hid ((hr1.ext hbx1).less (K' := fun _ => False) (fun _ h => .inl h))
  clear hr1 ht1 hkn1 hbx1 R0 
  go_upto_region 7 with fail
  generalize (z1.alloc (.cells #[.int .i64 0, .int .i64 0, .bool false] 25)).setRow z1.heap.size #[.int .i64 (0), .int .i64 (0), .bool false] = X1 at R1 ⊢
  clear hst1
  go_wp2_with (first | (go_at_call 14; (first | with_reducible refine (HWf.out _).mono ?_ | with_reducible refine (HWp.out _).mono ?_); rintro er w5 ⟨rfl, rfl⟩) | fail)
  refine (run_step R1.out (by omega) (entG zN q m) none 0 0 (RdT.nil _) 0 1 G2.out).mono ?_
  rintro er z2 ⟨v2, rfl, hv2, hr2, ht2⟩
  obtain rfl := nil_of hv2
  clear hv2
  obtain ⟨hst2, hkn2, hbx2⟩ := box_done z2 (0) (0) false
  have R2 := Lib.hid ((hr2.ext hbx2).less (K' := fun _ => False) (fun _ h => .inl h))
  clear hr2 ht2 hkn2 hbx2 R1 
  go_upto_region 9 with fail
  generalize (z2.alloc (.cells #[.int .i64 0, .int .i64 0, .bool false] 25)).setRow z2.heap.size #[.int .i64 (0), .int .i64 (0), .bool false] = X2 at R2 ⊢
  clear hst2
  go_wp2_with fail
  refine (run_step R2.out (by omega) (entG zN (2 + q) m) none 0 0 (RdT.nil _) 0 2 G3.out).mono ?_
  rintro er z3 ⟨v3, rfl, hv3, hr3, ht3⟩
  have HV3 := Lib.hid hv3
  clear hv3
  obtain ⟨hst3, hkn3, hbx3⟩ := box_done z3 (0) (0) false
  have R3 := Lib.hid ((hr3.ext hbx3).less (K' := fun _ => False) (fun _ h => .inl h))
  clear hr3 ht3 hkn3 hbx3 R2 
  go_upto_region 10 with fail
  generalize (z3.alloc (.cells #[.int .i64 0, .int .i64 0, .bool false] 25)).setRow z3.heap.size #[.int .i64 (0), .int .i64 (0), .bool false] = X3 at R3 ⊢
  clear hst3
  go_wp2_with fail
  refine (run_step R3.out (by omega) (entG yN 0 m) none 0 0 (RdT.nil _) 0 3 G4.out).mono ?_
  rintro er z4 ⟨v4, rfl, hv4, hr4, ht4⟩
  have HV4 := Lib.hid hv4
  clear hv4
  obtain ⟨hst4, hkn4, hbx4⟩ := box_done z4 (0) (0) false
  have R4 := Lib.hid ((hr4.ext hbx4).less (K' := fun _ => False) (fun _ h => .inl h))
  clear hr4 ht4 hkn4 hbx4 R3 
  go_upto_region 11 with fail
  generalize (z4.alloc (.cells #[.int .i64 0, .int .i64 0, .bool false] 25)).setRow z4.heap.size #[.int .i64 (0), .int .i64 (0), .bool false] = X4 at R4 ⊢
  clear hst4
  have HB4 := Lib.hid R4.out.below
  have HKd : Hid (∀ u v, ErrV2 u 10 → Below X4.heap.size X4 v → Calls Tryz.prog 13 #[u] v fun e w' => e = .returned (.int .i64 10) ∧ Below X4.heap.size X4 w') := fun u v hu hv =>
    (kindV hu (by decide) v (ErrLaid.below HLd.out (HB4.out.trans (below_le HB4.out.size hv)))).mono fun er w' h => ⟨h.1, hv.trans (below_le hv.size h.2)⟩
  go_wp2_with (first | (go_at_call 13; (first | (go_loud (with_reducible refine (HKd.out v3 _ HV3.out (Below.refl _ _)).mono ?_); go_loud (rintro er y5 ⟨rfl, hy5⟩); have HY5 := Lib.hid hy5; clear hy5) | (go_loud (with_reducible refine (HKd.out v4 _ HV4.out HY5.out).mono ?_); go_loud (rintro er y6 ⟨rfl, hy6⟩); have HY6 := Lib.hid hy6; clear hy6))) | fail)
  have HI : Hid (MkI w y6 s m q 0) := ⟨_, M2, by omega, (R4.out.ext HY6.out).less (fun _ h => .inl h), HMk.out⟩
  clear HMk G1 G2 G3 G4 R4 HV3 HV4 HY5 HY6 HKd HB4
  go_loopw [18] (fun i wr => ∃ k : Nat, k ≤ n ∧ k ≤ 20 ∧ i = .int .i64 k ∧ Hid (MkI w wr s m q k)) (fun i _ => n - (intOf i).toNat)
  case atStart => exact ⟨0, by omega, by omega, rfl, HI⟩
  case round =>
    obtain ⟨k, hkn, hk20, rfl, hInv⟩ := hrel
    clear HI
    by_cases hin : k < n ∧ k < 20
    · obtain ⟨hlt, hlt2⟩ := hin
      have hi : (k : Int) < n := by omega
      have hi2 : (k : Int) < 20 := by omega
      have hrd := HRD.out.ext hInv.out.below (Nat.le_refl _)
      obtain ⟨ad, rfl, hadl, hce⟩ := hrd.cell k hlt
      have hld := hrd.load hlt
      have HOk := Lib.hid (hrd.ok k hlt)
      clear hadl hce hrd
      go_wp2_with (first | (go_at_call 15; go_loud (with_reducible refine (kentry_any (l k) HOk.out wr).mono ?_)) | fail)
      rintro er w3 ⟨A3, n3, c3, rfl, hr3, hb3⟩
      obtain ⟨e, he⟩ : ∃ e, entOf (l k) = e := ⟨_, rfl⟩
      have htop : e.topic = wd (wn (l k).t) := by rw [← he]; exact entOf_topic _
      rw [he] at hr3 ⊢
      have hzt : zN ≠ e.topic := by rw [htop]; exact fun ee => wd_z (wn_lt _) ee.symm
      have HZT := Lib.hid hzt
      have hk3 := Bk.made w3 34 #[.int .i64 0, .string ⟨#[]⟩, .string ⟨#[]⟩, .int .i64 0, .int .i64 0, .int .i64 0, .int .i64 0, .int .i64 0, .int .i64 0, .int .i64 0, .slice none 0 0]
      have hb3' := below_new w3 (.cells #[.int .i64 0, .string ⟨#[]⟩, .string ⟨#[]⟩, .int .i64 0, .int .i64 0, .int .i64 0, .int .i64 0, .int .i64 0, .int .i64 0, .int .i64 0, .slice none 0 0] 34)
      have hst := stE_row hk3 rfl e.kind e.topic e.group e.part e.parts e.first e.off e.bat.time e.bat.prod e.bat.seq A3 n3 c3
      have hk4 := hk3.row #[.int .i64 e.kind, .string e.topic, .string e.group, .int .i64 e.part, .int .i64 e.parts, .int .i64 e.first, .int .i64 e.off, .int .i64 e.bat.time, .int .i64 e.bat.prod, .int .i64 e.bat.seq, .slice A3 n3 c3]
      have hb4 := below_row hb3' hb3'.size (Nat.le_refl _) #[.int .i64 e.kind, .string e.topic, .string e.group, .int .i64 e.part, .int .i64 e.parts, .int .i64 e.first, .int .i64 e.off, .int .i64 e.bat.time, .int .i64 e.bat.prod, .int .i64 e.bat.seq, .slice A3 n3 c3]
      have HK4 := Lib.hid hk4
      have HB4 := Lib.hid (hb3.trans (below_le hb3.size hb4))
      have HR4 : Hid (RdT ((w3.alloc (.cells #[.int .i64 0, .string ⟨#[]⟩, .string ⟨#[]⟩, .int .i64 0, .int .i64 0, .int .i64 0, .int .i64 0, .int .i64 0, .int .i64 0, .int .i64 0, .slice none 0 0] 34)).setRow w3.heap.size #[.int .i64 e.kind, .string e.topic, .string e.group, .int .i64 e.part, .int .i64 e.parts, .int .i64 e.first, .int .i64 e.off, .int .i64 e.bat.time, .int .i64 e.bat.prod, .int .i64 e.bat.seq, .slice A3 n3 c3]) A3 n3 c3 e.bat.vals) := RdT.ext hr3 hb4
      have HR5 : Hid (RdT (((w3.alloc (.cells #[.int .i64 0, .string ⟨#[]⟩, .string ⟨#[]⟩, .int .i64 0, .int .i64 0, .int .i64 0, .int .i64 0, .int .i64 0, .int .i64 0, .int .i64 0, .slice none 0 0] 34)).setRow w3.heap.size #[.int .i64 e.kind, .string e.topic, .string e.group, .int .i64 e.part, .int .i64 e.parts, .int .i64 e.first, .int .i64 e.off, .int .i64 e.bat.time, .int .i64 e.bat.prod, .int .i64 e.bat.seq, .slice A3 n3 c3]).setCell ⟨w3.heap.size, 1, none⟩ (.string ⟨#[122]⟩)) A3 n3 c3 e.bat.vals) := RdT.ext hr3 (below_grown hb4 hb4.size (grown_set _ ⟨w3.heap.size, 1, none⟩ _) (Nat.le_refl _))
      have HG4 : Hid (wr.heap.size ≤ w3.heap.size) := hb3.size
      clear hr3 hb3 hk3 hb3' hk4 hb4 he htop hzt
      go_upto_region 17 with fail
      obtain ⟨G, hG⟩ : ∃ G, G = w3.heap.size := ⟨_, rfl⟩
      rw [← hG] at HK4 HB4 HR4 HR5 HG4 ⊢
      generalize (w3.alloc (.cells #[.int .i64 0, .string ⟨#[]⟩, .string ⟨#[]⟩, .int .i64 0, .int .i64 0, .int .i64 0, .int .i64 0, .int .i64 0, .int .i64 0, .int .i64 0, .slice none 0 0] 34)).setRow G #[.int .i64 e.kind, .string e.topic, .string e.group, .int .i64 e.part, .int .i64 e.parts, .int .i64 e.first, .int .i64 e.off, .int .i64 e.bat.time, .int .i64 e.bat.prod, .int .i64 e.bat.seq, .slice A3 n3 c3] = X at HK4 HB4 HR4 HR5 ⊢
      clear hst hG
      have c0 : X.cell? ⟨G, 0, none⟩ = some (.int .i64 e.kind) := HK4.out.cell 0
      by_cases hkd : e.kind = 3 ∨ e.kind = 5
      · have c1 : X.cell? ⟨G, 1, none⟩ = some (.string e.topic) := HK4.out.cell 1
        have f1 : X.frozen? ⟨G, 1, none⟩ = false := HK4.out.thaw 1
        have hldz := ldE_bk (ent_put e HK4.out)
        have HAp := Lib.hid (hInv.out.step HQ.out hlt2 (below_grown HB4.out HB4.out.size (grown_set X ⟨G, 1, none⟩ (.string ⟨#[122]⟩)) HG4.out) ⟨e.kind, ⟨#[122]⟩, e.group, e.part, e.parts, e.first, e.off, e.bat⟩ (.inr hkd) A3 n3 c3 HR5.out (k : Int))
        dsimp only at HAp
        rcases hkd with hkd | hkd
        all_goals
          rw [hkd] at c0 hldz HAp
          go_wp2_with (first | (go_at_call 11; go_loud (with_reducible refine HAp.out.mono ?_); go_loud (rintro er w4 ⟨a4, v4, rfl, hI4⟩); have HMa := Lib.hid (hI4.mark HQ.out); have HMb := Lib.hid (hI4.unmark HQ.out); have HI4 := Lib.hid hI4; clear hI4) | (go_at_call 16; (first | (go_loud (with_reducible refine HMa.out.mono ?_); rintro er y7 ⟨rfl, rfl⟩) | (go_loud (with_reducible refine HMb.out.mono ?_); rintro er y7 ⟨x7, rfl, rfl⟩))) | fail)
          exact ⟨⟨k + 1, by omega, by omega, by go_num, HI4⟩, by simp [intOf]; omega⟩
      · have hk3 : (e.kind == 3) = false := by simpa using fun h => hkd (.inl h)
        have hk5 : (e.kind == 5) = false := by simpa using fun h => hkd (.inr h)
        have hlde := ldE_bk HK4.out
        have HAp := Lib.hid (hInv.out.step HQ.out hlt2 HB4.out e (.inl HZT.out) A3 n3 c3 HR4.out (k : Int))
        clear hkd
        go_wp2_with (first | (go_at_call 11; go_loud (with_reducible refine HAp.out.mono ?_); go_loud (rintro er w4 ⟨a4, v4, rfl, hI4⟩); have HMa := Lib.hid (hI4.mark HQ.out); have HMb := Lib.hid (hI4.unmark HQ.out); have HI4 := Lib.hid hI4; clear hI4) | (go_at_call 16; (first | (go_loud (with_reducible refine HMa.out.mono ?_); rintro er y7 ⟨rfl, rfl⟩) | (go_loud (with_reducible refine HMb.out.mono ?_); rintro er y7 ⟨x7, rfl, rfl⟩))) | fail)
        exact ⟨⟨k + 1, by omega, by omega, by go_num, HI4⟩, by simp [intOf]; omega⟩
    · have hcase : ((k : Int) < n ∧ ¬ (k : Int) < 20) ∨ ¬ (k : Int) < n := by omega
      obtain ⟨N, M, hN, hR, hM⟩ := hInv.out
      have hN40 : N ≤ 40 := by omega
      have R5 := Lib.hid hR
      obtain ⟨M5, g5, hno⟩ := mend hM (by omega)
      have G5 := Lib.hid g5
      have HNo := Lib.hid hno
      clear hR hM g5 hno hInv hkn hk20 hin hN
      rcases hcase with ⟨hi1, hi2⟩ | hi1
      all_goals
        go_wp2_with fail
        refine (run_step R5.out (by omega) entZD none 0 0 (RdT.nil _) 2 0 G5.out).mono ?_
        rintro er z6 ⟨v6, rfl, hv6, hr6, ht6⟩
        obtain rfl := nil_of hv6
        clear hv6
        obtain ⟨hst6, hkn6, hbx6⟩ := box_done z6 (0) (0) false
        have R6 := Lib.hid ((hr6.ext hbx6).less (K' := fun _ => False) (fun _ h => .inl h))
        clear hr6 ht6 hkn6 hbx6 R5 
        go_upto_region 27 with fail
        generalize (z6.alloc (.cells #[.int .i64 0, .int .i64 0, .bool false] 25)).setRow z6.heap.size #[.int .i64 (0), .int .i64 (0), .bool false] = X6 at R6 ⊢
        clear hst6
        have hmk7 := run_marked R6.out gN zN (by decide) (by decide) q (wf_of (by omega) (by omega))
        rw [HNo.out] at hmk7
        have HMk7 : Hid (Calls Tryz.prog 16 #[.pointer (some ⟨s, 0, none⟩), .string ⟨#[103]⟩, .string ⟨#[122]⟩, .int .i64 q] X6 fun e w' => e = .returned (.tuple #[.int .i64 (markOf M5.grp (mkey gN zN q)), .bool false]) ∧ X6 = w') := hmk7
        clear hmk7
        have HBl := Lib.hid R6.out.below
        have HSr := Lib.hid (stRuns_any X6 (R6.out.laid HLd.out))
        go_wp2_with (first | (go_at_call 16; go_loud (with_reducible refine HMk7.out.mono ?_); rintro er w5 ⟨rfl, rfl⟩) | (go_at_call 3; go_loud (with_reducible refine HSr.out.mono ?_); go_loud (rintro er w9 ⟨rfl, hb9⟩); have HB9 := Lib.hid hb9; clear hb9) | fail)
        go_ret
        exact ⟨rfl, HBl.out.trans (below_le HBl.out.size HB9.out)⟩
end Go.Proofs.YtjodiieeocaipaaGreatDoor

/-
  stavelaw21: StateMarks, over whatever came.
-/
namespace Go.Proofs.YtjodiieeocaipaaGreatDoor
open Go.ChangeShapes Go.WideShapes Go.ChangeAt Go.RowKit
set_option maxRecDepth 100000 in
theorem stateMarks_any {H : Type} {enc : TypeId × Value → H} {base : Nat} {v0 v1 v2 : Value} {d0 d1 d2 : DataW H} {p0 p1 p2 : List MemPlace} (w : World) (hl : ErrLaid w) (h0 : Came enc w base 39 v0 d0 p0) (h1 : Came enc w base 3 v1 d1 p1) (h2 : Came enc w base 3 v2 d2 p2) :
    Calls Tryz.prog 4 #[v0, v1, v2] w fun er w' => er = .returned (.bool true) ∧ Below w.heap.size w w' := by
  obtain ⟨A, n, c, l, rfl, hr⟩ := h0.deeds
  obtain ⟨z, rfl, hz⟩ := h1.int
  obtain ⟨x, rfl, hx⟩ := h2.int
  exact stMarks_any A n c l z x hz hx w hr hl
end Go.Proofs.YtjodiieeocaipaaGreatDoor
