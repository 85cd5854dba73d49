/-
  stavelaw21: StateRuns: what the model says of the runs; produce.
-/
import Derived.Test.YtjodiieeocaipaaGreatDoorSRun
import Derived.Test.YtjodiieeocaipaaGreatDoorSDoneEq
namespace Go.Proofs.YtjodiieeocaipaaGreatDoor
open Go.RowKit Go.Maps
attribute [local go_sem ↓] ldB_eq stB_eq ldE_eq stE_eq ldD_eq stD_eq eqDn_eq guDn_eq

def tN : ByteArray := ⟨#[116]⟩
def entC (parts first : Int) : Ent := ⟨1, tN, nul, 0, parts, first, 0, noB⟩
def entD : Ent := ⟨2, tN, nul, 0, 0, 0, 0, noB⟩
def batP (q : Int) : Bat := ⟨0, 5, q, [⟨#[120]⟩, ⟨#[121]⟩]⟩
def entP (q : Int) : Ent := ⟨3, tN, nul, 0, 0, 0, 0, batP q⟩
theorem right_C : rightE (entC 1 0) = true := by decide
theorem right_D : rightE entD = true := by decide
theorem right_P0 : rightE (entP 0) = true := by decide
theorem right_P1 : rightE (entP 1) = true := by decide
theorem right_P2 : rightE (entP 2) = true := by decide
theorem app_P {M : StM} {q stripe at_ : Int} {P P' : PartM} {D : DoneM} {k : Int} (hr : rightE (entP q) = true) (h0 : 0 ≤ stripe) (h1 : 0 ≤ at_) (hp : partT M.top tN 0 = some P) (hm : prodM P (batP q) stripe at_ = (P', D, k)) :
    applyM M (entP q) stripe at_ = (⟨setT M.top tN 0 P', M.grp⟩, D, k) := by
  rw [applyM_ok hr h0 h1, app3 (e := entP q) rfl hp]
  show ((⟨setT M.top tN 0 (prodM P (batP q) stripe at_).1, M.grp⟩ : StM), (prodM P (batP q) stripe at_).2.1, (prodM P (batP q) stripe at_).2.2) = _
  rw [hm]
def P2 : PartM := ⟨addLog (newLog 0) 2 0 0 1, noteD (fun _ => none) 5 ⟨0, 0, 2⟩⟩
theorem prod1 : prodM (newPart 0) (batP 0) 0 1 = (P2, ⟨0, 2, false⟩, 0) := prodM_new (x := ⟨0, 0, 0⟩) (by rfl) (by rfl)
theorem prod2 : prodM P2 (batP 0) 0 2 = (P2, ⟨0, 2, true⟩, 0) := prodM_again (x := ⟨0, 0, 2⟩) (by rfl)
theorem prod3 : prodM P2 (batP 2) 0 3 = (P2, noDone, 12) := prodM_bad (x := ⟨0, 0, 0⟩) (ag := false) (by rfl) (by decide)
theorem app_P2 {M : StM} {q stripe at_ : Int} {P P' : PartM} {D : DoneM} {k : Int} (hr : rightE (entP q) = true) (h0 : 0 ≤ stripe) (h1 : 0 ≤ at_) (hp : partT M.top tN 0 = some P) (hm : prodM P (batP q) stripe at_ = (P', D, k)) :
    ∃ M', applyM M (entP q) stripe at_ = (M', D, k) ∧ partT M'.top tN 0 = some P' := ⟨_, app_P hr h0 h1 hp hm, part_set hp⟩
theorem app_D {M : StM} {stripe at_ : Int} {P : PartM} (h0 : 0 ≤ stripe) (h1 : 0 ≤ at_) (hp : partT M.top tN 0 = some P) : applyM M entD stripe at_ = (⟨delT tN M.top, lessOf tN M.grp⟩, noDone, 0) := by
  rw [applyM_ok right_D h0 h1, app2 (e := entD) rfl]
  show ((remM M tN).1, noDone, (remM M tN).2) = _
  unfold remM
  rw [if_pos (has_part hp)]
theorem runs_model : ∃ M1 M2 M3 M4 M5, applyM newSt (entC 1 0) 0 0 = (M1, noDone, 0) ∧ applyM M1 (entP 0) 0 1 = (M2, ⟨0, 2, false⟩, 0) ∧ applyM M2 (entP 0) 0 2 = (M3, ⟨0, 2, true⟩, 0) ∧ applyM M3 (entP 2) 0 3 = (M4, noDone, 12) ∧ applyM M4 entD 0 4 = (M5, noDone, 0) ∧ applyM M5 (entP 1) 0 5 = (M5, noDone, 10) := by
  have h1 : applyM newSt (entC 1 0) 0 0 = (⟨[(tN, [newPart 0])], .map []⟩, noDone, 0) := by
    rw [applyM_ok right_C (by decide) (by decide), app1 (e := entC 1 0) rfl]
    rfl
  have p1 : partT (⟨[(tN, [newPart 0])], .map []⟩ : StM).top tN 0 = some (newPart 0) := by simp [partT, findT]
  obtain ⟨M2, h2, p2⟩ := app_P2 (M := ⟨[(tN, [newPart 0])], .map []⟩) right_P0 (by decide) (by decide) p1 prod1
  obtain ⟨M3, h3, p3⟩ := app_P2 (M := M2) right_P0 (by decide) (by decide) p2 prod2
  obtain ⟨M4, h4, p4⟩ := app_P2 (M := M3) right_P2 (by decide) (by decide) p3 prod3
  refine ⟨_, M2, M3, M4, _, h1, h2, h3, h4, app_D (by decide) (by decide) p4, ?_⟩
  rw [applyM_ok right_P1 (by decide) (by decide)]
  exact app_none (by decide) (by decide) part_del _ _
theorem RdT.const (w : World) (l : List ByteArray) (C : Array Value) (hC : C = (l.map Value.string).toArray) (e : TypeId) (n : Nat) (hn : n = l.length) (hb : n ≤ 9223372036854775807) (g : Nat) (hg : g = w.heap.size) : RdT (w.alloc (.cells C e)) (some ⟨g, 0, none⟩) n n l := by
  subst hC hn hg
  refine ⟨List.length_map _, Nat.le_refl _, hb, fun k u hu => ⟨_, rfl, by simp, ?_⟩⟩
  rw [Addr.add_none, cell_of_row _ _ _ _ _ _ (heap_alloc_new w _), ← hu]
  simp
set_option maxRecDepth 100000 in
theorem lawProd_any (q : Int) (w : World) : Calls Tryz.prog 12 #[.int .i64 q] w fun e w' => ∃ A, e = .returned (.agg #[.int .i64 3, .string ⟨#[116]⟩, .string ⟨#[]⟩, .int .i64 0, .int .i64 0, .int .i64 0, .int .i64 0, .int .i64 0, .int .i64 5, .int .i64 q, .slice A 2 2]) ∧ RdT w' A 2 2 [⟨#[120]⟩, ⟨#[121]⟩] ∧ Below w.heap.size w w' := by
  have hb1 := below_new w (.cells #[.int .i64 0, .string ⟨#[]⟩, .string ⟨#[]⟩, .int .i64 0, .int .i64 0, .int .i64 0, .int .i64 0, .int .i64 0, .int .i64 0, .int .i64 0, .slice none 0 0] 34)
  have hk1 := Bk.made w 34 #[.int .i64 0, .string ⟨#[]⟩, .string ⟨#[]⟩, .int .i64 0, .int .i64 0, .int .i64 0, .int .i64 0, .int .i64 0, .int .i64 0, .int .i64 0, .slice none 0 0]
  have hs1 : (w.alloc (.cells #[.int .i64 0, .string ⟨#[]⟩, .string ⟨#[]⟩, .int .i64 0, .int .i64 0, .int .i64 0, .int .i64 0, .int .i64 0, .int .i64 0, .int .i64 0, .slice none 0 0] 34)).heap.size = w.heap.size + 1 := by simp
  have hb2 := below_new (w.alloc (.cells #[.int .i64 0, .string ⟨#[]⟩, .string ⟨#[]⟩, .int .i64 0, .int .i64 0, .int .i64 0, .int .i64 0, .int .i64 0, .int .i64 0, .int .i64 0, .slice none 0 0] 34)) (.cells #[.string ⟨#[120]⟩, .string ⟨#[121]⟩] 9)
  have hk2 := hk1.ext hb2
  have hst := stE_row hk2 rfl 3 ⟨#[116]⟩ ⟨#[]⟩ 0 0 0 0 0 5 q (some ⟨w.heap.size + 1, 0, none⟩) 2 2
  have hr := RdT.const (w.alloc (.cells #[.int .i64 0, .string ⟨#[]⟩, .string ⟨#[]⟩, .int .i64 0, .int .i64 0, .int .i64 0, .int .i64 0, .int .i64 0, .int .i64 0, .int .i64 0, .slice none 0 0] 34)) [⟨#[120]⟩, ⟨#[121]⟩] _ rfl 9 2 rfl (by omega) (w.heap.size + 1) hs1.symm
  have HB := Lib.hid (hb1.trans (below_le hb1.size hb2))
  have HK := Lib.hid hk2
  have HR := Lib.hid hr
  clear hb1 hk1 hs1 hb2 hk2 hr
  go_enter Tryz.func12, Tryz.ntmps12
  go_wp2_with fail
  refine bodyPost_ret (results_cell_row rfl _ _ w.heap.size _ _ (0, 0) _ rfl (HK.out.row _) Tryz.underlying34 rfl size_e) rfl ?_
  exact ⟨_, rfl, RdT.kept HR.out (grown_row _ _ _) (fun ad e e2 => by rw [← Option.some.inj e] at e2; have e3 : w.heap.size = w.heap.size + 1 := Option.some.inj e2; omega), below_row HB.out HB.out.size (Nat.le_refl _) _⟩

set_option maxRecDepth 100000 in
set_option maxHeartbeats 600000 in
theorem stRuns_any (w : World) (hl : ErrLaid w) : Calls Tryz.prog 3 #[] w fun e w' => e = .returned (.bool true) ∧ Below w.heap.size w w' := by
  obtain ⟨M1, M2, M3, M4, M5, m1, m2, m3, m4, m5, m6⟩ := runs_model
  have HN := Lib.hid (run_new w)
  have HLd := Lib.hid hl
  have G1 : Hid (applyM newSt (entC 1 0) 0 0 = (M1, ⟨0, 0, false⟩, 0)) := m1
  have G2 : Hid (applyM M1 (entP 0) 0 1 = (M2, ⟨0, 2, false⟩, 0)) := m2
  have G3 : Hid (applyM M2 (entP 0) 0 2 = (M3, ⟨0, 2, true⟩, 0)) := m3
  have G4 : Hid (applyM M3 (entP 2) 0 3 = (M4, ⟨0, 0, false⟩, 12)) := m4
  have G5 : Hid (applyM M4 entD 0 4 = (M5, ⟨0, 0, false⟩, 0)) := m5
  have G6 : Hid (applyM M5 (entP 1) 0 5 = (M5, ⟨0, 0, false⟩, 10)) := m6
  clear hl m1 m2 m3 m4 m5 m6
  go_enter Tryz.func3, Tryz.ntmps3
  go_wp2_with fail
  with_reducible refine HN.out.mono ?_
  rintro er w1 ⟨s, rfl, hr1⟩
  obtain ⟨X0, hX0⟩ : ∃ X, X = w1 := ⟨_, rfl⟩
  have R0 := Lib.hid hr1
  clear hr1
  subst hX0
  go_wp2_with fail
  refine (run_step R0.out (by omega) (entC 1 0) none 0 0 (RdT.nil _) 0 0 G1.out).mono ?_
  rintro er z1 ⟨v1, rfl, hv1, hr1, ht1⟩
  obtain rfl : v1 = .nilIface := by
    rcases hv1 with ⟨_, h⟩ | ⟨h, _⟩
    · exact h
    · exact absurd rfl h
  clear hv1
  have hbn1 := below_new z1 (.cells #[.int .i64 0, .int .i64 0, .bool false] 25)
  have hst1 := stD_row (Bk.made z1 25 #[.int .i64 0, .int .i64 0, .bool false]) rfl 0 0 false
  have hkn1 := (Bk.made z1 25 #[.int .i64 0, .int .i64 0, .bool false]).row #[.int .i64 0, .int .i64 0, .bool false]
  have hbx1 := below_row hbn1 hbn1.size (Nat.le_refl _) #[.int .i64 0, .int .i64 0, .bool false]
  have R1 := Lib.hid ((hr1.ext hbx1).less (K' := fun _ => False) (fun _ h => .inl h))
  clear hr1 ht1 hbn1 hkn1 hbx1 R0
  go_upto_region 5 with fail
  generalize (z1.alloc (.cells #[.int .i64 0, .int .i64 0, .bool false] 25)).setRow z1.heap.size #[.int .i64 0, .int .i64 0, .bool false] = X1 at R1 ⊢
  go_wp2_with fail
  with_reducible refine (lawProd_any 0 _).mono ?_
  rintro er y2 ⟨A2, rfl, hrd2, hb2⟩
  have HRd2 := Lib.hid hrd2
  have HB2 := Lib.hid hb2
  have RY2 := Lib.hid ((R1.out.ext hb2).less (fun _ h => .inl h))
  clear hrd2 hb2
  go_wp2_with fail
  refine (run_step RY2.out (by omega) (entP 0) A2 2 2 HRd2.out 0 1 G2.out).mono ?_
  rintro er z2 ⟨v2, rfl, hv2, hr2, ht2⟩
  obtain rfl : v2 = .nilIface := by
    rcases hv2 with ⟨_, h⟩ | ⟨h, _⟩
    · exact h
    · exact absurd rfl h
  clear hv2
  have hbn2 := below_new z2 (.cells #[.int .i64 0, .int .i64 0, .bool false] 25)
  have hst2 := stD_row (Bk.made z2 25 #[.int .i64 0, .int .i64 0, .bool false]) rfl 0 2 false
  have hkn2 := (Bk.made z2 25 #[.int .i64 0, .int .i64 0, .bool false]).row #[.int .i64 0, .int .i64 2, .bool false]
  have hbx2 := below_row hbn2 hbn2.size (Nat.le_refl _) #[.int .i64 0, .int .i64 2, .bool false]
  have hlt2 : z2.heap.size < ((z2.alloc (.cells #[.int .i64 0, .int .i64 0, .bool false] 25)).setRow z2.heap.size #[.int .i64 0, .int .i64 2, .bool false]).heap.size := hkn2.lt
  have R2 := Lib.hid ((hr2.ext hbx2).less (K' := fun i => i = z2.heap.size) (fun i h => by subst h; exact .inr ⟨Nat.le_refl _, hlt2⟩))
  have KA2 := Lib.hid hkn2
  clear hlt2
  clear hr2 ht2 hbn2 hkn2 hbx2 R1 RY2 HRd2 HB2
  go_upto_region 6 with fail
  generalize (z2.alloc (.cells #[.int .i64 0, .int .i64 0, .bool false] 25)).setRow z2.heap.size #[.int .i64 0, .int .i64 2, .bool false] = X2 at R2 KA2 ⊢
  go_wp2_with fail
  with_reducible refine (lawProd_any 0 _).mono ?_
  rintro er y3 ⟨A3, rfl, hrd3, hb3⟩
  have HRd3 := Lib.hid hrd3
  have HB3 := Lib.hid hb3
  have RY3 := Lib.hid ((R2.out.ext hb3).less (fun _ h => .inl h))
  clear hrd3 hb3
  go_wp2_with fail
  refine (run_step RY3.out (by omega) (entP 0) A3 2 2 HRd3.out 0 2 G3.out).mono ?_
  rintro er z3 ⟨v3, rfl, hv3, hr3, ht3⟩
  obtain rfl : v3 = .nilIface := by
    rcases hv3 with ⟨_, h⟩ | ⟨h, _⟩
    · exact h
    · exact absurd rfl h
  clear hv3
  have hbn3 := below_new z3 (.cells #[.int .i64 0, .int .i64 0, .bool false] 25)
  have hst3 := stD_row (Bk.made z3 25 #[.int .i64 0, .int .i64 0, .bool false]) rfl 0 2 true
  have hkn3 := (Bk.made z3 25 #[.int .i64 0, .int .i64 0, .bool false]).row #[.int .i64 0, .int .i64 2, .bool true]
  have hbx3 := below_row hbn3 hbn3.size (Nat.le_refl _) #[.int .i64 0, .int .i64 2, .bool true]
  have KA2n := ((KA2.out.ext HB3.out).turned ht3 (fun hx => hx.2 (by simp))).ext hbx3
  have KA2p := Lib.hid KA2n
  clear KA2n
  have hlt3 : z3.heap.size < ((z3.alloc (.cells #[.int .i64 0, .int .i64 0, .bool false] 25)).setRow z3.heap.size #[.int .i64 0, .int .i64 2, .bool true]).heap.size := hkn3.lt
  have R3 := Lib.hid ((hr3.ext hbx3).less (K' := fun i => i = z2.heap.size ∨ i = z3.heap.size) (fun i h => by rcases h with rfl | rfl; exact .inl (by simp); exact .inr ⟨Nat.le_refl _, hlt3⟩))
  have KA3 := Lib.hid hkn3
  clear hlt3
  clear hr3 ht3 hbn3 hkn3 hbx3 R2 RY3 HRd3 HB3
  clear KA2
  go_upto_region 7 with fail
  generalize (z3.alloc (.cells #[.int .i64 0, .int .i64 0, .bool false] 25)).setRow z3.heap.size #[.int .i64 0, .int .i64 2, .bool true] = X3 at R3 KA2p KA3 ⊢
  go_wp2_with fail
  with_reducible refine (lawProd_any 2 _).mono ?_
  rintro er y4 ⟨A4, rfl, hrd4, hb4⟩
  have HRd4 := Lib.hid hrd4
  have HB4 := Lib.hid hb4
  have RY4 := Lib.hid ((R3.out.ext hb4).less (fun _ h => .inl h))
  clear hrd4 hb4
  go_wp2_with fail
  refine (run_step RY4.out (by omega) (entP 2) A4 2 2 HRd4.out 0 3 G4.out).mono ?_
  rintro er z4 ⟨v4, rfl, hv4, hr4, ht4⟩
  have HV4 := Lib.hid hv4
  clear hv4
  have hbn4 := below_new z4 (.cells #[.int .i64 0, .int .i64 0, .bool false] 25)
  have hst4 := stD_row (Bk.made z4 25 #[.int .i64 0, .int .i64 0, .bool false]) rfl 0 0 false
  have hkn4 := (Bk.made z4 25 #[.int .i64 0, .int .i64 0, .bool false]).row #[.int .i64 0, .int .i64 0, .bool false]
  have hbx4 := below_row hbn4 hbn4.size (Nat.le_refl _) #[.int .i64 0, .int .i64 0, .bool false]
  have KA2pn := ((KA2p.out.ext HB4.out).turned ht4 (fun hx => hx.2 (by simp))).ext hbx4
  have KA2pp := Lib.hid KA2pn
  clear KA2pn
  have KA3n := ((KA3.out.ext HB4.out).turned ht4 (fun hx => hx.2 (by simp))).ext hbx4
  have KA3p := Lib.hid KA3n
  clear KA3n
  have R4 := Lib.hid ((hr4.ext hbx4).less (K' := fun i => i = z2.heap.size ∨ i = z3.heap.size) (fun _ h => .inl h))
  clear hr4 ht4 hbn4 hkn4 hbx4 R3 RY4 HRd4 HB4
  clear KA2p
  clear KA3
  go_upto_region 8 with fail
  generalize (z4.alloc (.cells #[.int .i64 0, .int .i64 0, .bool false] 25)).setRow z4.heap.size #[.int .i64 0, .int .i64 0, .bool false] = X4 at R4 KA2pp KA3p ⊢
  go_wp2_with fail
  refine (run_step R4.out (by omega) (entD) none 0 0 (RdT.nil _) 0 4 G5.out).mono ?_
  rintro er z5 ⟨v5, rfl, hv5, hr5, ht5⟩
  obtain rfl : v5 = .nilIface := by
    rcases hv5 with ⟨_, h⟩ | ⟨h, _⟩
    · exact h
    · exact absurd rfl h
  clear hv5
  have hbn5 := below_new z5 (.cells #[.int .i64 0, .int .i64 0, .bool false] 25)
  have hst5 := stD_row (Bk.made z5 25 #[.int .i64 0, .int .i64 0, .bool false]) rfl 0 0 false
  have hkn5 := (Bk.made z5 25 #[.int .i64 0, .int .i64 0, .bool false]).row #[.int .i64 0, .int .i64 0, .bool false]
  have hbx5 := below_row hbn5 hbn5.size (Nat.le_refl _) #[.int .i64 0, .int .i64 0, .bool false]
  have KA2ppn := (KA2pp.out.turned ht5 (fun hx => hx.2 (by simp))).ext hbx5
  have KA2ppp := Lib.hid KA2ppn
  clear KA2ppn
  have KA3pn := (KA3p.out.turned ht5 (fun hx => hx.2 (by simp))).ext hbx5
  have KA3pp := Lib.hid KA3pn
  clear KA3pn
  have R5 := Lib.hid ((hr5.ext hbx5).less (K' := fun i => i = z2.heap.size ∨ i = z3.heap.size) (fun _ h => .inl h))
  clear hr5 ht5 hbn5 hkn5 hbx5 R4
  clear KA2pp
  clear KA3p
  go_upto_region 9 with fail
  generalize (z5.alloc (.cells #[.int .i64 0, .int .i64 0, .bool false] 25)).setRow z5.heap.size #[.int .i64 0, .int .i64 0, .bool false] = X5 at R5 KA2ppp KA3pp ⊢
  go_wp2_with fail
  with_reducible refine (lawProd_any 1 _).mono ?_
  rintro er y6 ⟨A6, rfl, hrd6, hb6⟩
  have HRd6 := Lib.hid hrd6
  have HB6 := Lib.hid hb6
  have RY6 := Lib.hid ((R5.out.ext hb6).less (fun _ h => .inl h))
  clear hrd6 hb6
  go_wp2_with fail
  refine (run_step RY6.out (by omega) (entP 1) A6 2 2 HRd6.out 0 5 G6.out).mono ?_
  rintro er z6 ⟨v6, rfl, hv6, hr6, ht6⟩
  have HV6 := Lib.hid hv6
  clear hv6
  have hbn6 := below_new z6 (.cells #[.int .i64 0, .int .i64 0, .bool false] 25)
  have hst6 := stD_row (Bk.made z6 25 #[.int .i64 0, .int .i64 0, .bool false]) rfl 0 0 false
  have hkn6 := (Bk.made z6 25 #[.int .i64 0, .int .i64 0, .bool false]).row #[.int .i64 0, .int .i64 0, .bool false]
  have hbx6 := below_row hbn6 hbn6.size (Nat.le_refl _) #[.int .i64 0, .int .i64 0, .bool false]
  have KA2pppn := ((KA2ppp.out.ext HB6.out).turned ht6 (fun hx => hx.2 (by simp))).ext hbx6
  have KA2pppp := Lib.hid KA2pppn
  clear KA2pppn
  have KA3ppn := ((KA3pp.out.ext HB6.out).turned ht6 (fun hx => hx.2 (by simp))).ext hbx6
  have KA3ppp := Lib.hid KA3ppn
  clear KA3ppn
  have R6 := Lib.hid ((hr6.ext hbx6).less (K' := fun i => i = z2.heap.size ∨ i = z3.heap.size) (fun _ h => .inl h))
  clear hr6 ht6 hbn6 hkn6 hbx6 R5 RY6 HRd6 HB6
  clear KA2ppp
  clear KA3pp
  go_upto_region 10 with fail
  generalize (z6.alloc (.cells #[.int .i64 0, .int .i64 0, .bool false] 25)).setRow z6.heap.size #[.int .i64 0, .int .i64 0, .bool false] = X6 at R6 KA2pppp KA3ppp ⊢
  have hld2 := ldD_bk KA2pppp.out
  have hld3 := ldD_bk KA3ppp.out
  have he1 := eq_done1 X6
  have he2 := eq_done2 X6
  have hg1 := gu_done (.tmp 60) (.tmp 61) 0 2 false 0 2 false X6
  have hg2 := gu_done (.tmp 69) (.tmp 70) 0 2 true 0 2 true X6
  have HL6 := Lib.hid (R6.out.laid HLd.out)
  clear hst1 hst2 hst3 hst4 hst5 hst6
  have HK4 := Lib.hid (kindV HV4.out (by decide) X6 HL6.out)
  go_wp2_with fail
  with_reducible refine HK4.out.mono ?_
  rintro er x1 ⟨rfl, hx1⟩
  have HX1 := Lib.hid hx1
  have HK6 := Lib.hid (kindV HV6.out (by decide) x1 (ErrLaid.below HL6.out hx1))
  clear hx1
  go_wp2_with fail
  with_reducible refine HK6.out.mono ?_
  rintro er x2 ⟨rfl, hx2⟩
  have HX2 := Lib.hid hx2
  clear hx2
  go_wp2_with fail
  go_ret
  exact ⟨rfl, (R6.out.below.trans (below_le R6.out.below.size HX1.out)).trans (below_le (Nat.le_trans R6.out.below.size HX1.out.size) HX2.out)⟩
end Go.Proofs.YtjodiieeocaipaaGreatDoor
