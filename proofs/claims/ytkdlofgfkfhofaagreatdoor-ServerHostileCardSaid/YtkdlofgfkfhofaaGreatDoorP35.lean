import Derived.Test.YtkdlofgfkfhofaaGreatDoorP33
import Derived.Test.YtkdlofgfkfhofaaGreatDoorP34
/-
  reply: Get of a reply's bytes.
-/
namespace Go.Proofs.YtkdlofgfkfhofaaGreatDoor
open Go.RowKit

theorem rpl_good : ∀ f ∈ rplF, GoodF f := fun f hf => someF_good f (rpl_some f hf)
theorem rpB_get {co er : Int} (hok : okAll rplF (rplV co er 0 0) = true) : getAll rplF (rpB co er) = .ok (rplV co er 0 0) := getAll_put _ _ rpl_good hok
/-- the six values that a reply is made of -/
theorem six_vals {ms : List MVal} {co er : Int} (h : vsOf ms = rplV co er 0 0) : ∃ m0 m1 m2 m3 m4 m5 : MVal, ms = [m0, m1, m2, m3, m4, m5] ∧ m0.v.n = co ∧ m1.v.n = er ∧ m2.v.n = 0 ∧ m3.v.n = 0 ∧ m4.v.l = [] ∧ m5.v.l = [] := by
  unfold vsOf rplV rplM vsOf at h
  match ms, h with
  | [m0, m1, m2, m3, m4, m5], h =>
    simp only [List.map_cons, List.map_nil, List.cons.injEq, and_true] at h
    obtain ⟨h0, h1, h2, h3, h4, h5⟩ := h
    exact ⟨m0, m1, m2, m3, m4, m5, rfl, by rw [h0]; rfl, by rw [h1]; rfl, by rw [h2]; rfl, by rw [h3]; rfl, by rw [h4]; rfl, by rw [h5]; rfl⟩
  | [], h => simp at h
  | [_], h => simp at h
  | [_, _], h => simp at h
  | [_, _, _], h => simp at h
  | [_, _, _, _], h => simp at h
  | [_, _, _, _, _], h => simp at h
  | _ :: _ :: _ :: _ :: _ :: _ :: _ :: _, h => simp at h
theorem res_rpG {fn : Func} {p u : Tmp} (h : fn.results = #[.cell p 43, .tmp u]) (tmps : Array Value) (w : World) (g : Nat) (co er ba nx : Int) (A0 : Option Addr) (c0 : Nat) (hp : tmps.getD p undef = .pointer (some ⟨g, 0, none⟩)) (hb : Bk w g 43 (rpD co er ba nx A0 c0)) :
    (results fn tmps).run Tryz.prog w = .ok (.tuple #[.agg (rpD co er ba nx A0 c0), tmps.getD u undef]) w := by
  rw [results_cell_tmp h, hp]
  simp only [asAddr, Sem.run_pure, Result.andThen_ok, run_loadVar_row w g _ _ _ (0, 0) _ hb Tryz.underlying43 rfl size_rp]
theorem RdT.zero {w w' : World} {A : Option Addr} {c : Nat} (h : RdT w A 0 c []) : RdT w' A 0 c [] := ⟨rfl, Nat.zero_le _, Rd.big h, fun k u hu => by simp at hu⟩
attribute [local go_sem ↓] ldRp_eq
set_option maxRecDepth 100000 in
set_option maxHeartbeats 4000000 in
theorem rpGet_any {A : Option Addr} {n c : Nat} {co er : Int} (hok : okAll rplF (rplV co er 0 0) = true) {w : World} (hr : RdB w A n c (rpB co er)) :
    Calls Tryz.prog 77 #[.slice A n c] w fun e w' => ∃ A0 c0, e = .returned (.tuple #[.agg (rpD co er 0 0 A0 c0), .nilIface]) ∧ RdT w' A0 0 c0 [] ∧ Below w.heap.size w w' := by
  have HF := Lib.hid (fun v => rpFields_any v)
  have HR := Lib.hid hr
  have HOk := Lib.hid hok
  have hb0 := below_new w (.cells #[.int .i64 0, .int .i64 0, .int .i64 0, .int .i64 0, .slice none 0 0, .slice none 0 0] 43)
  have hk0 := Bk.made w 43 #[.int .i64 0, .int .i64 0, .int .i64 0, .int .i64 0, .slice none 0 0, .slice none 0 0]
  have HB0 := Lib.hid hb0
  have HK0 := Lib.hid hk0
  clear hr hok hb0 hk0
  go_enter Tryz.func77, Tryz.ntmps77
  go_wp2_with fail
  generalize w.alloc (.cells #[.int .i64 0, .int .i64 0, .int .i64 0, .int .i64 0, .slice none 0 0, .slice none 0 0] 43) = w1 at HB0 HK0 ⊢
  generalize hG : w.heap.size = gr at HK0 ⊢
  have HG := Lib.hid hG
  clear hG
  with_reducible refine (HF.out _).mono ?_
  rintro er2 w2 ⟨gf, rfl, hf2, hb2⟩
  have HB2 := Lib.hid (HB0.out.trans (below_le HB0.out.size hb2))
  have HK2 := Lib.hid (HK0.out.ext hb2)
  have HGt := Lib.hid (fget_any (some ⟨gf, 0, none⟩) 6 6 rplF A n c (rpB co er) w2 rpl_some hf2 (HR.out.ext (HB2.out)) (by omega))
  clear hf2 hb2 HF
  go_wp2_with fail
  with_reducible refine HGt.out.mono ?_
  rintro er3 w3 ⟨A3, n3, c3, v3, rfl, hg3, hb3⟩
  obtain ⟨m0, m1, m2, m3, m4, m5, hrd, rfl, e0, e1, e2, e3, e4, e5⟩ : ∃ m0 m1 m2 m3 m4 m5 : MVal, RdV w3 A3 n3 c3 [m0, m1, m2, m3, m4, m5] ∧ v3 = .nilIface ∧ m0.v.n = co ∧ m1.v.n = er ∧ m2.v.n = 0 ∧ m3.v.n = 0 ∧ m4.v.l = [] ∧ m5.v.l = [] := by
    rcases hg3 with ⟨ms, q1, q2, q3, _⟩ | ⟨k, _, q⟩
    · rw [rpB_get HOk.out] at q3
      injection q3 with q3
      obtain ⟨m0, m1, m2, m3, m4, m5, rfl, p0, p1, p2, p3, p4, p5⟩ := six_vals q3.symm
      exact ⟨m0, m1, m2, m3, m4, m5, q2, q1, p0, p1, p2, p3, p4, p5⟩
    · rw [rpB_get HOk.out] at q
      cases q
  have hn3 : n3 = 6 := hrd.rows.len.symm
  subst hn3
  obtain ⟨g3, rfl, hl3, hc0⟩ := hrd.rows.cell 0 _ rfl
  obtain ⟨_, q1, _, hc1⟩ := hrd.rows.cell 1 _ rfl
  injection q1 with q1; injection q1 with q1 _; subst q1
  obtain ⟨_, q2, _, hc2⟩ := hrd.rows.cell 2 _ rfl
  injection q2 with q2; injection q2 with q2 _; subst q2
  obtain ⟨_, q3, _, hc3⟩ := hrd.rows.cell 3 _ rfl
  injection q3 with q3; injection q3 with q3 _; subst q3
  obtain ⟨_, q4, _, hc4⟩ := hrd.rows.cell 4 _ rfl
  injection q4 with q4; injection q4 with q4 _; subst q4
  obtain ⟨_, q5, _, hc5⟩ := hrd.rows.cell 5 _ rfl
  injection q5 with q5; injection q5 with q5 _; subst q5
  have hv4 : RdT w3 m4.A m4.n m4.c m4.v.l := hrd.vals m4 (by simp)
  have hv5 : RdT w3 m5.A m5.n m5.c m5.v.l := hrd.vals m5 (by simp)
  rw [e4] at hv4
  rw [e5] at hv5
  have n4 : m4.n = 0 := hv4.len.symm
  have n5 : m5.n = 0 := hv5.len.symm
  have d0 : w3.cell? ⟨g3, 0, none⟩ = some (.int .i64 co) := by rw [← e0]; exact hc0 0 _ rfl
  have d1 : w3.cell? ⟨g3, 3, none⟩ = some (.int .i64 er) := by rw [← e1]; exact hc1 0 _ rfl
  have d2 : w3.cell? ⟨g3, 6, none⟩ = some (.int .i64 0) := by rw [← e2]; exact hc2 0 _ rfl
  have d3 : w3.cell? ⟨g3, 9, none⟩ = some (.int .i64 0) := by rw [← e3]; exact hc3 0 _ rfl
  have d4 : w3.cell? ⟨g3, 14, none⟩ = some (.slice m4.A 0 m4.c) := by rw [← n4]; exact hc4 2 _ rfl
  have d5 : w3.cell? ⟨g3, 17, none⟩ = some (.slice m5.A 0 m5.c) := by rw [← n5]; exact hc5 2 _ rfl
  have HV4 : Hid (RdT w3 m4.A 0 m4.c []) := by rw [n4] at hv4; exact hv4
  have HB3 := Lib.hid (HB2.out.trans (below_le HB2.out.size hb3))
  have HK3 := Lib.hid (HK2.out.ext hb3)
  generalize m4.A = A4 at d4 HV4
  generalize m4.c = c4 at d4 HV4
  generalize m5.A = A5 at d5
  generalize m5.c = c5 at d5
  have hne3 : g3 < w3.heap.size := hl3
  clear hc0 hc1 hc2 hc3 hc4 hc5 hv4 hv5 n4 n5 e0 e1 e2 e3 e4 e5 hrd hg3 hb3 HGt HB2 HK2 HR
  go_wp2_with fail
  go_region
  have hb4 : Below w3.heap.size w3 (w3.alloc (.cells (rpD co er 0 0 A4 c4) 43)).drew := below_drew1 (below_new w3 (.cells (rpD co er 0 0 A4 c4) 43))
  have HK4 := Lib.hid (HK3.out.ext hb4)
  have HB4 := Lib.hid (HB3.out.trans (below_le HB3.out.size hb4))
  have HV5 := Lib.hid (HV4.out.ext hb4)
  have HR4 : Hid (Bk (w3.alloc (.cells (rpD co er 0 0 A4 c4) 43)).drew w3.heap.size 43 (rpD co er 0 0 A4 c4)) := Bk.drawn1 (Bk.made w3 _ _)
  have d6 : (w3.alloc (.cells (rpD co er 0 0 A4 c4) 43)).drew.cell? ⟨g3, 17, none⟩ = some (.slice A5 0 c5) := (hb4.cell (p := ⟨g3, 17, none⟩) hne3).trans d5
  clear hb4 d0 d1 d2 d3 d4 d5 HK3 HB3 HV4
  generalize (w3.alloc (.cells (rpD co er 0 0 A4 c4) 43)).drew = w4 at HK4 HB4 HV5 HR4 d6 ⊢
  go_wp2_with fail
  go_loopw [46] (fun i wr => i = .int .i64 0 ∧ wr = w4) (fun _ _ => 0)
  case atStart => exact ⟨rfl, rfl⟩
  case round =>
    obtain ⟨rfl, rfl⟩ := hrel
    have HRi := Lib.hid (rpRightG_any co er 0 0 A4 c4 HOk.out wr HV5.out)
    have hldr := ldRpG_bk HR4.out
    clear d6
    go_wp2_with fail
    with_reducible refine HRi.out.mono ?_
    rintro er5 w5 ⟨rfl, hb5⟩
    have hldr5 := ldRpG_bk (HR4.out.ext hb5)
    have HK5 := Lib.hid (HK4.out.ext hb5)
    have HB5 := Lib.hid (HB4.out.trans (below_le HB4.out.size hb5))
    have HV6 := Lib.hid (HV5.out.ext hb5)
    clear hb5 hldr HRi
    have k0 : w5.cell? ⟨gr, 0, none⟩ = some (.int .i64 0) := HK5.out.cell 0
    have z0 := HK5.out.thaw 0
    have k1 : w5.cell? ⟨gr, 1, none⟩ = some (.int .i64 0) := HK5.out.cell 1
    have z1 := HK5.out.thaw 1
    have k2 : w5.cell? ⟨gr, 2, none⟩ = some (.int .i64 0) := HK5.out.cell 2
    have z2 := HK5.out.thaw 2
    have k3 : w5.cell? ⟨gr, 3, none⟩ = some (.int .i64 0) := HK5.out.cell 3
    have z3 := HK5.out.thaw 3
    have k4 : w5.cell? ⟨gr, 4, none⟩ = some (.slice none 0 0) := HK5.out.cell 4
    have z4 := HK5.out.thaw 4
    have k5 : w5.cell? ⟨gr, 5, none⟩ = some (.slice none 0 0) := HK5.out.cell 5
    have z5 := HK5.out.thaw 5
    have HX : Hid (Bk ((((((w5.setCell ⟨gr, 0, none⟩ (.int .i64 co)).setCell ⟨gr, 1, none⟩ (.int .i64 er)).setCell ⟨gr, 2, none⟩ (.int .i64 0)).setCell ⟨gr, 3, none⟩ (.int .i64 0)).setCell ⟨gr, 4, none⟩ (.slice A4 0 c4)).setCell ⟨gr, 5, none⟩ (.slice none 0 0)) gr 43 (rpD co er 0 0 A4 c4)) := (((((HK5.out.put 0 _).put 1 _).put 2 _).put 3 _).put 4 _).put 5 _
    have HBX : Hid (Below w.heap.size w ((((((w5.setCell ⟨gr, 0, none⟩ (.int .i64 co)).setCell ⟨gr, 1, none⟩ (.int .i64 er)).setCell ⟨gr, 2, none⟩ (.int .i64 0)).setCell ⟨gr, 3, none⟩ (.int .i64 0)).setCell ⟨gr, 4, none⟩ (.slice A4 0 c4)).setCell ⟨gr, 5, none⟩ (.slice none 0 0))) := by
      have hgr := HG.out
      have step : ∀ (W : World), Below w.heap.size w W → ∀ (j : Nat) (u : Value), Below w.heap.size w (W.setCell ⟨gr, j, none⟩ u) := fun W h j u => below_grown h h.size (grown_set W ⟨gr, j, none⟩ u) (by show w.heap.size ≤ gr; omega)
      exact step _ (step _ (step _ (step _ (step _ (step _ HB5.out 0 _) 1 _) 2 _) 3 _) 4 _) 5 _
    have HVX : Hid (RdT ((((((w5.setCell ⟨gr, 0, none⟩ (.int .i64 co)).setCell ⟨gr, 1, none⟩ (.int .i64 er)).setCell ⟨gr, 2, none⟩ (.int .i64 0)).setCell ⟨gr, 3, none⟩ (.int .i64 0)).setCell ⟨gr, 4, none⟩ (.slice A4 0 c4)).setCell ⟨gr, 5, none⟩ (.slice none 0 0)) A4 0 c4 []) := RdT.zero HV6.out
    go_wp2_with fail
    exact bodyPost_ret (res_rpG rfl _ _ gr co er 0 0 A4 c4 rfl HX.out) rfl ⟨A4, c4, rfl, HVX.out, HBX.out⟩
end Go.Proofs.YtkdlofgfkfhofaaGreatDoor
