/-
  staveref19: askFields, askValues, askMade, Writes, EntryOf, askOf.
-/
import Derived.Test.YtpfdbbcfcimmfaaGreatDoorAsk
import Derived.Test.YtpfdbbcfcimmfaaGreatDoorRefB
import Derived.Deep.RegionHeld3
namespace Go.Proofs.YtpfdbbcfcimmfaaGreatDoor
open Go.RowKit
attribute [local go_sem ↓] ldB_eq stB_eq ldE_eq stE_eq ldA_eq stA_eq sliced_past
attribute [local go_sem] pastA_zero pastA_some

set_option maxRecDepth 100000 in
set_option maxHeartbeats 4000000 in
theorem refAvals_any (co k : Int) (t g : ByteArray) (p1 p2 p3 p4 p5 p6 p7 p8 p9 : Int) (A : Option Addr) (n c : Nat) (vals : List ByteArray) (w : World) :
    Calls Tryz.prog 59 #[.agg #[.int .i64 co, .int .i64 k, .string t, .string g, .int .i64 p1, .int .i64 p2, .int .i64 p3, .int .i64 p4, .int .i64 p5, .int .i64 p6, .int .i64 p7, .int .i64 p8, .int .i64 p9, .slice A n c]] w fun e w' => ∃ A' n' c' ms, e = .returned (.slice A' n' c') ∧ RdV w' A' n' c' ms ∧ vsOf ms = valsA ⟨co, k, t, g, p1, p2, p3, p4, p5, p6, ⟨p7, p8, p9, vals⟩⟩ ∧ Below w.heap.size w w' := by
  have hk : k = 7 ∨ k = 8 ∨ k = 9 ∨ ((k == 7) = false ∧ (k == 8) = false ∧ (k == 9) = false) := by
    simp only [beq_eq_false_iff_ne]
    omega
  have HB := Lib.hid (below_new w (.cells #[.int .i64 co, .int .i64 k, .string t, .string g, .int .i64 p1, .int .i64 p2, .int .i64 p3, .int .i64 p4, .int .i64 p5, .int .i64 p6, .int .i64 p7, .int .i64 p8, .int .i64 p9, .slice A n c] 47))
  rcases hk with rfl | rfl | rfl | ⟨k7, k8, k9⟩
  · go_enter Tryz.func59, Tryz.ntmps59
    go_wp2
    go_ret
    exact ⟨_, _, _, [strM t, numM p1, numM p4, numM p5], rfl, aRdV [strM t, numM p1, numM p4, numM p5] (Bk.made_at _ _ 101 _ (by simp)) rfl rfl (by omega) (by simp [numM, strM, nV, sV]), rfl, HB.out.alloc (Nat.le_trans (Nat.le_refl _) HB.out.size) _⟩
  · go_enter Tryz.func59, Tryz.ntmps59
    go_wp2
    go_ret
    exact ⟨_, _, _, [strM t, numM p1, numM p6], rfl, aRdV [strM t, numM p1, numM p6] (Bk.made_at _ _ 101 _ (by simp)) rfl rfl (by omega) (by simp [numM, strM, nV, sV]), rfl, HB.out.alloc (Nat.le_trans (Nat.le_refl _) HB.out.size) _⟩
  · go_enter Tryz.func59, Tryz.ntmps59
    go_wp2
    go_ret
    exact ⟨_, _, _, [strM g, strM t, numM p1], rfl, aRdV [strM g, strM t, numM p1] (Bk.made_at _ _ 101 _ (by simp)) rfl rfl (by omega) (by simp [numM, strM, nV, sV]), rfl, HB.out.alloc (Nat.le_trans (Nat.le_refl _) HB.out.size) _⟩
  · go_enter Tryz.func59, Tryz.ntmps59
    go_wp2
    go_ret
    simp only [beq_eq_false_iff_ne] at k7 k8 k9
    refine ⟨none, 0, 0, [], rfl, ⟨RdK.nil _ _, fun m hm => absurd hm List.not_mem_nil⟩, ?_, HB.out⟩
    unfold valsA
    rw [if_neg k7, if_neg k8, if_neg k9]
    rfl
theorem refAVals (a : Ask) (A : Option Addr) (n c : Nat) (w : World) :
    Calls Tryz.prog 59 #[.agg #[.int .i64 a.corr, .int .i64 a.kind, .string a.topic, .string a.group, .int .i64 a.part, .int .i64 a.parts, .int .i64 a.first, .int .i64 a.off, .int .i64 a.most, .int .i64 a.time, .int .i64 a.bat.time, .int .i64 a.bat.prod, .int .i64 a.bat.seq, .slice A n c]] w fun e w' => ∃ A' n' c' ms, e = .returned (.slice A' n' c') ∧ RdV w' A' n' c' ms ∧ vsOf ms = valsA a ∧ Below w.heap.size w w' :=
  refAvals_any a.corr a.kind a.topic a.group a.part a.parts a.first a.off a.most a.time a.bat.time a.bat.prod a.bat.seq A n c a.bat.vals w
set_option maxRecDepth 100000 in
set_option maxHeartbeats 4000000 in
theorem refAmade_6 (A : Option Addr) (n c : Nat) (w : World) :
    Calls Tryz.prog 60 #[.int .i64 6, .slice A n c] w fun e w' => e = .returned (.agg #[.int .i64 0, .int .i64 6, .string ⟨#[]⟩, .string ⟨#[]⟩, .int .i64 0, .int .i64 0, .int .i64 0, .int .i64 0, .int .i64 0, .int .i64 0, .int .i64 0, .int .i64 0, .int .i64 0, .slice none 0 0]) ∧ Below w.heap.size w w' := by
  have hst0 := stA_newAt (w.alloc (.cells zA 47)) (w.heap.size + 1) (by simp) 0 6 ⟨#[]⟩ ⟨#[]⟩ 0 0 0 0 0 0 0 0 0 none 0 0 zA rfl
  have hld := ldA_bk (((two_ask w 0 6 ⟨#[]⟩ ⟨#[]⟩ 0 0 0 0 0 0 0 0 0 none 0 0).2))
  have hst := stA_row (((two_ask w 0 6 ⟨#[]⟩ ⟨#[]⟩ 0 0 0 0 0 0 0 0 0 none 0 0).1)) rfl 0 6 ⟨#[]⟩ ⟨#[]⟩ 0 0 0 0 0 0 0 0 0 none 0 0
  have hbk := Lib.hid (((two_ask w 0 6 ⟨#[]⟩ ⟨#[]⟩ 0 0 0 0 0 0 0 0 0 none 0 0).1))
  have hbl := Lib.hid (show Below w.heap.size w _ from below_row (below_two w (.cells zA 47) (.cells #[.int .i64 0, .int .i64 6, .string ⟨#[]⟩, .string ⟨#[]⟩, .int .i64 0, .int .i64 0, .int .i64 0, .int .i64 0, .int .i64 0, .int .i64 0, .int .i64 0, .int .i64 0, .int .i64 0, .slice none 0 0] 47)) (Nat.le_trans (Nat.le_refl _) (Below.size (below_two w (.cells zA 47) (.cells #[.int .i64 0, .int .i64 6, .string ⟨#[]⟩, .string ⟨#[]⟩, .int .i64 0, .int .i64 0, .int .i64 0, .int .i64 0, .int .i64 0, .int .i64 0, .int .i64 0, .int .i64 0, .int .i64 0, .slice none 0 0] 47)))) (Nat.le_refl _) #[.int .i64 0, .int .i64 6, .string ⟨#[]⟩, .string ⟨#[]⟩, .int .i64 0, .int .i64 0, .int .i64 0, .int .i64 0, .int .i64 0, .int .i64 0, .int .i64 0, .int .i64 0, .int .i64 0, .slice none 0 0])
  simp only [zA] at hst0 hld hst hbl
  go_enter Tryz.func60, Tryz.ntmps60
  go_wp2_with fail
  all_goals exact bodyPost_ret (results_cell_row rfl _ _ w.heap.size _ _ (0, 0) _ rfl (Bk.row hbk.out _) Tryz.underlying47 rfl size_a) rfl ⟨rfl, hbl.out⟩
set_option maxRecDepth 100000 in
set_option maxHeartbeats 4000000 in
theorem refAmade_7 (gv c : Nat) (m0 m1 m2 m3 : MVal) (w : World) (_hc : 4 ≤ c) (_hc' : c ≤ 9223372036854775807) (hg : gv < w.heap.size) (d0 : w.cell? ⟨gv, 1, none⟩ = some (.string m0.v.s)) (d1 : w.cell? ⟨gv, 3, none⟩ = some (.int .i64 m1.v.n)) (d2 : w.cell? ⟨gv, 6, none⟩ = some (.int .i64 m2.v.n)) (d3 : w.cell? ⟨gv, 9, none⟩ = some (.int .i64 m3.v.n)) :
    Calls Tryz.prog 60 #[.int .i64 7, .slice (some ⟨gv, 0, none⟩) 4 c] w fun e w' => e = .returned (.agg #[.int .i64 0, .int .i64 7, .string m0.v.s, .string ⟨#[]⟩, .int .i64 m1.v.n, .int .i64 0, .int .i64 0, .int .i64 m2.v.n, .int .i64 m3.v.n, .int .i64 0, .int .i64 0, .int .i64 0, .int .i64 0, .slice none 0 0]) ∧ Below w.heap.size w w' := by
  have hst0 := stA_newAt (w.alloc (.cells zA 47)) (w.heap.size + 1) (by simp) 0 7 ⟨#[]⟩ ⟨#[]⟩ 0 0 0 0 0 0 0 0 0 none 0 0 zA rfl
  have hld := ldA_bk (Bk.drawn1 ((two_ask w 0 7 m0.v.s ⟨#[]⟩ m1.v.n 0 0 m2.v.n m3.v.n 0 0 0 0 none 0 0).2))
  have hst := stA_row (Bk.drawn1 ((two_ask w 0 7 m0.v.s ⟨#[]⟩ m1.v.n 0 0 m2.v.n m3.v.n 0 0 0 0 none 0 0).1)) rfl 0 7 m0.v.s ⟨#[]⟩ m1.v.n 0 0 m2.v.n m3.v.n 0 0 0 0 none 0 0
  have hbk := Lib.hid (Bk.drawn1 ((two_ask w 0 7 m0.v.s ⟨#[]⟩ m1.v.n 0 0 m2.v.n m3.v.n 0 0 0 0 none 0 0).1))
  have hbl := Lib.hid (show Below w.heap.size w _ from below_row (below_drew1 (below_two w (.cells zA 47) (.cells #[.int .i64 0, .int .i64 7, .string m0.v.s, .string ⟨#[]⟩, .int .i64 m1.v.n, .int .i64 0, .int .i64 0, .int .i64 m2.v.n, .int .i64 m3.v.n, .int .i64 0, .int .i64 0, .int .i64 0, .int .i64 0, .slice none 0 0] 47))) (Nat.le_trans (Nat.le_refl _) (Below.size (below_drew1 (below_two w (.cells zA 47) (.cells #[.int .i64 0, .int .i64 7, .string m0.v.s, .string ⟨#[]⟩, .int .i64 m1.v.n, .int .i64 0, .int .i64 0, .int .i64 m2.v.n, .int .i64 m3.v.n, .int .i64 0, .int .i64 0, .int .i64 0, .int .i64 0, .slice none 0 0] 47))))) (Nat.le_refl _) #[.int .i64 0, .int .i64 7, .string m0.v.s, .string ⟨#[]⟩, .int .i64 m1.v.n, .int .i64 0, .int .i64 0, .int .i64 m2.v.n, .int .i64 m3.v.n, .int .i64 0, .int .i64 0, .int .i64 0, .int .i64 0, .slice none 0 0])
  simp only [zA] at hst0 hld hst hbl
  have FS : Hid (∀ w', Below w.heap.size w w' → (Below w.heap.size w w' ∧ w'.cell? ⟨gv, 1, none⟩ = some (.string m0.v.s) ∧ w'.cell? ⟨gv, 3, none⟩ = some (.int .i64 m1.v.n) ∧ w'.cell? ⟨gv, 6, none⟩ = some (.int .i64 m2.v.n) ∧ w'.cell? ⟨gv, 9, none⟩ = some (.int .i64 m3.v.n))) := fun w' hb => ⟨hb, (hb.cell (p := ⟨gv, 1, none⟩) hg).trans d0, (hb.cell (p := ⟨gv, 3, none⟩) hg).trans d1, (hb.cell (p := ⟨gv, 6, none⟩) hg).trans d2, (hb.cell (p := ⟨gv, 9, none⟩) hg).trans d3⟩
  clear d0 d1 d2 d3
  go_enter Tryz.func60, Tryz.ntmps60
  go_wp2_with fail
  go_region_held3 (fun w' => Below w.heap.size w w' ∧ w'.cell? ⟨gv, 1, none⟩ = some (.string m0.v.s) ∧ w'.cell? ⟨gv, 3, none⟩ = some (.int .i64 m1.v.n) ∧ w'.cell? ⟨gv, 6, none⟩ = some (.int .i64 m2.v.n) ∧ w'.cell? ⟨gv, 9, none⟩ = some (.int .i64 m3.v.n)) (first | exact FS.out _ (below_drew1 (below_two w _ _)) | exact FS.out _ (below_two w _ _)) (first | fail)
  all_goals (go_wp2_with fail)
  all_goals exact bodyPost_ret (results_cell_row rfl _ _ w.heap.size _ _ (0, 0) _ rfl (Bk.row hbk.out _) Tryz.underlying47 rfl size_a) rfl ⟨rfl, hbl.out⟩
set_option maxRecDepth 100000 in
set_option maxHeartbeats 4000000 in
theorem refAmade_8 (gv c : Nat) (m0 m1 m2 : MVal) (w : World) (_hc : 3 ≤ c) (_hc' : c ≤ 9223372036854775807) (hg : gv < w.heap.size) (d0 : w.cell? ⟨gv, 1, none⟩ = some (.string m0.v.s)) (d1 : w.cell? ⟨gv, 3, none⟩ = some (.int .i64 m1.v.n)) (d2 : w.cell? ⟨gv, 6, none⟩ = some (.int .i64 m2.v.n)) :
    Calls Tryz.prog 60 #[.int .i64 8, .slice (some ⟨gv, 0, none⟩) 3 c] w fun e w' => e = .returned (.agg #[.int .i64 0, .int .i64 8, .string m0.v.s, .string ⟨#[]⟩, .int .i64 m1.v.n, .int .i64 0, .int .i64 0, .int .i64 0, .int .i64 0, .int .i64 m2.v.n, .int .i64 0, .int .i64 0, .int .i64 0, .slice none 0 0]) ∧ Below w.heap.size w w' := by
  have hst0 := stA_newAt (w.alloc (.cells zA 47)) (w.heap.size + 1) (by simp) 0 8 ⟨#[]⟩ ⟨#[]⟩ 0 0 0 0 0 0 0 0 0 none 0 0 zA rfl
  have hld := ldA_bk (Bk.drawn1 ((two_ask w 0 8 m0.v.s ⟨#[]⟩ m1.v.n 0 0 0 0 m2.v.n 0 0 0 none 0 0).2))
  have hst := stA_row (Bk.drawn1 ((two_ask w 0 8 m0.v.s ⟨#[]⟩ m1.v.n 0 0 0 0 m2.v.n 0 0 0 none 0 0).1)) rfl 0 8 m0.v.s ⟨#[]⟩ m1.v.n 0 0 0 0 m2.v.n 0 0 0 none 0 0
  have hbk := Lib.hid (Bk.drawn1 ((two_ask w 0 8 m0.v.s ⟨#[]⟩ m1.v.n 0 0 0 0 m2.v.n 0 0 0 none 0 0).1))
  have hbl := Lib.hid (show Below w.heap.size w _ from below_row (below_drew1 (below_two w (.cells zA 47) (.cells #[.int .i64 0, .int .i64 8, .string m0.v.s, .string ⟨#[]⟩, .int .i64 m1.v.n, .int .i64 0, .int .i64 0, .int .i64 0, .int .i64 0, .int .i64 m2.v.n, .int .i64 0, .int .i64 0, .int .i64 0, .slice none 0 0] 47))) (Nat.le_trans (Nat.le_refl _) (Below.size (below_drew1 (below_two w (.cells zA 47) (.cells #[.int .i64 0, .int .i64 8, .string m0.v.s, .string ⟨#[]⟩, .int .i64 m1.v.n, .int .i64 0, .int .i64 0, .int .i64 0, .int .i64 0, .int .i64 m2.v.n, .int .i64 0, .int .i64 0, .int .i64 0, .slice none 0 0] 47))))) (Nat.le_refl _) #[.int .i64 0, .int .i64 8, .string m0.v.s, .string ⟨#[]⟩, .int .i64 m1.v.n, .int .i64 0, .int .i64 0, .int .i64 0, .int .i64 0, .int .i64 m2.v.n, .int .i64 0, .int .i64 0, .int .i64 0, .slice none 0 0])
  simp only [zA] at hst0 hld hst hbl
  have FS : Hid (∀ w', Below w.heap.size w w' → (Below w.heap.size w w' ∧ w'.cell? ⟨gv, 1, none⟩ = some (.string m0.v.s) ∧ w'.cell? ⟨gv, 3, none⟩ = some (.int .i64 m1.v.n) ∧ w'.cell? ⟨gv, 6, none⟩ = some (.int .i64 m2.v.n))) := fun w' hb => ⟨hb, (hb.cell (p := ⟨gv, 1, none⟩) hg).trans d0, (hb.cell (p := ⟨gv, 3, none⟩) hg).trans d1, (hb.cell (p := ⟨gv, 6, none⟩) hg).trans d2⟩
  clear d0 d1 d2
  go_enter Tryz.func60, Tryz.ntmps60
  go_wp2_with fail
  go_region_held3 (fun w' => Below w.heap.size w w' ∧ w'.cell? ⟨gv, 1, none⟩ = some (.string m0.v.s) ∧ w'.cell? ⟨gv, 3, none⟩ = some (.int .i64 m1.v.n) ∧ w'.cell? ⟨gv, 6, none⟩ = some (.int .i64 m2.v.n)) (first | exact FS.out _ (below_drew1 (below_two w _ _)) | exact FS.out _ (below_two w _ _)) (first | fail)
  all_goals (go_wp2_with fail)
  all_goals exact bodyPost_ret (results_cell_row rfl _ _ w.heap.size _ _ (0, 0) _ rfl (Bk.row hbk.out _) Tryz.underlying47 rfl size_a) rfl ⟨rfl, hbl.out⟩
set_option maxRecDepth 100000 in
set_option maxHeartbeats 4000000 in
theorem refAmade_9 (gv c : Nat) (m0 m1 m2 : MVal) (w : World) (_hc : 3 ≤ c) (_hc' : c ≤ 9223372036854775807) (hg : gv < w.heap.size) (d0 : w.cell? ⟨gv, 1, none⟩ = some (.string m0.v.s)) (d1 : w.cell? ⟨gv, 4, none⟩ = some (.string m1.v.s)) (d2 : w.cell? ⟨gv, 6, none⟩ = some (.int .i64 m2.v.n)) :
    Calls Tryz.prog 60 #[.int .i64 9, .slice (some ⟨gv, 0, none⟩) 3 c] w fun e w' => e = .returned (.agg #[.int .i64 0, .int .i64 9, .string m1.v.s, .string m0.v.s, .int .i64 m2.v.n, .int .i64 0, .int .i64 0, .int .i64 0, .int .i64 0, .int .i64 0, .int .i64 0, .int .i64 0, .int .i64 0, .slice none 0 0]) ∧ Below w.heap.size w w' := by
  have hst0 := stA_newAt (w.alloc (.cells zA 47)) (w.heap.size + 1) (by simp) 0 9 ⟨#[]⟩ ⟨#[]⟩ 0 0 0 0 0 0 0 0 0 none 0 0 zA rfl
  have hld := ldA_bk (Bk.drawn1 ((two_ask w 0 9 m1.v.s m0.v.s m2.v.n 0 0 0 0 0 0 0 0 none 0 0).2))
  have hst := stA_row (Bk.drawn1 ((two_ask w 0 9 m1.v.s m0.v.s m2.v.n 0 0 0 0 0 0 0 0 none 0 0).1)) rfl 0 9 m1.v.s m0.v.s m2.v.n 0 0 0 0 0 0 0 0 none 0 0
  have hbk := Lib.hid (Bk.drawn1 ((two_ask w 0 9 m1.v.s m0.v.s m2.v.n 0 0 0 0 0 0 0 0 none 0 0).1))
  have hbl := Lib.hid (show Below w.heap.size w _ from below_row (below_drew1 (below_two w (.cells zA 47) (.cells #[.int .i64 0, .int .i64 9, .string m1.v.s, .string m0.v.s, .int .i64 m2.v.n, .int .i64 0, .int .i64 0, .int .i64 0, .int .i64 0, .int .i64 0, .int .i64 0, .int .i64 0, .int .i64 0, .slice none 0 0] 47))) (Nat.le_trans (Nat.le_refl _) (Below.size (below_drew1 (below_two w (.cells zA 47) (.cells #[.int .i64 0, .int .i64 9, .string m1.v.s, .string m0.v.s, .int .i64 m2.v.n, .int .i64 0, .int .i64 0, .int .i64 0, .int .i64 0, .int .i64 0, .int .i64 0, .int .i64 0, .int .i64 0, .slice none 0 0] 47))))) (Nat.le_refl _) #[.int .i64 0, .int .i64 9, .string m1.v.s, .string m0.v.s, .int .i64 m2.v.n, .int .i64 0, .int .i64 0, .int .i64 0, .int .i64 0, .int .i64 0, .int .i64 0, .int .i64 0, .int .i64 0, .slice none 0 0])
  simp only [zA] at hst0 hld hst hbl
  have FS : Hid (∀ w', Below w.heap.size w w' → (Below w.heap.size w w' ∧ w'.cell? ⟨gv, 1, none⟩ = some (.string m0.v.s) ∧ w'.cell? ⟨gv, 4, none⟩ = some (.string m1.v.s) ∧ w'.cell? ⟨gv, 6, none⟩ = some (.int .i64 m2.v.n))) := fun w' hb => ⟨hb, (hb.cell (p := ⟨gv, 1, none⟩) hg).trans d0, (hb.cell (p := ⟨gv, 4, none⟩) hg).trans d1, (hb.cell (p := ⟨gv, 6, none⟩) hg).trans d2⟩
  clear d0 d1 d2
  go_enter Tryz.func60, Tryz.ntmps60
  go_wp2_with fail
  go_region_held3 (fun w' => Below w.heap.size w w' ∧ w'.cell? ⟨gv, 1, none⟩ = some (.string m0.v.s) ∧ w'.cell? ⟨gv, 4, none⟩ = some (.string m1.v.s) ∧ w'.cell? ⟨gv, 6, none⟩ = some (.int .i64 m2.v.n)) (first | exact FS.out _ (below_drew1 (below_two w _ _)) | exact FS.out _ (below_two w _ _)) (first | fail)
  all_goals (go_wp2_with fail)
  all_goals exact bodyPost_ret (results_cell_row rfl _ _ w.heap.size _ _ (0, 0) _ rfl (Bk.row hbk.out _) Tryz.underlying47 rfl size_a) rfl ⟨rfl, hbl.out⟩
theorem refAmade_any (k : Int) (hk : readK k = true) (A : Option Addr) (n c : Nat) (ms : List MVal) (w : World) (h : RdV w A n c ms) (hok : okAll (fldsA k) (vsOf ms) = true) :
    Calls Tryz.prog 60 #[.int .i64 k, .slice A n c] w fun e w' => ∃ x : Ask, e = .returned (.agg #[.int .i64 x.corr, .int .i64 x.kind, .string x.topic, .string x.group, .int .i64 x.part, .int .i64 x.parts, .int .i64 x.first, .int .i64 x.off, .int .i64 x.most, .int .i64 x.time, .int .i64 x.bat.time, .int .i64 x.bat.prod, .int .i64 x.bat.seq, .slice none 0 0]) ∧ x = madeA k (vsOf ms) ∧ x.bat.vals = [] ∧ Below w.heap.size w w' := by
  have hlen := h.rows.len
  rw [List.length_map] at hlen
  have hl2 : ms.length = (fldsA k).length := by
    have h1 := hok
    unfold okAll at h1
    rw [Bool.and_eq_true, decide_eq_true_iff] at h1
    have := h1.1
    unfold vsOf at this
    rw [List.length_map] at this
    exact this
  have hcap := h.rows.cap
  have hbig := h.rows.big
  rcases read_cases hk with rfl | rfl | rfl | rfl
  · refine (refAmade_6 A n c w).mono ?_
    rintro e w' ⟨rfl, hb⟩
    exact ⟨⟨0, 6, nul, nul, 0, 0, 0, 0, 0, 0, noB⟩, rfl, rfl, rfl, hb⟩
  · have hl3 : ms.length = 4 := hl2
    obtain rfl : n = 4 := by omega
    obtain ⟨gv, rfl, hg, hc⟩ := h.cellAt (by omega)
    match ms, hl3 with
    | [m0, m1, m2, m3], _ =>
      refine (refAmade_7 gv c m0 m1 m2 m3 w hcap hbig hg (hc 0 m0 1 _ rfl rfl) (hc 1 m1 0 _ rfl rfl) (hc 2 m2 0 _ rfl rfl) (hc 3 m3 0 _ rfl rfl)).mono ?_
      rintro e w' ⟨rfl, hb⟩
      exact ⟨⟨0, 7, m0.v.s, nul, m1.v.n, 0, 0, m2.v.n, m3.v.n, 0, noB⟩, rfl, rfl, rfl, hb⟩
  · have hl3 : ms.length = 3 := hl2
    obtain rfl : n = 3 := by omega
    obtain ⟨gv, rfl, hg, hc⟩ := h.cellAt (by omega)
    match ms, hl3 with
    | [m0, m1, m2], _ =>
      refine (refAmade_8 gv c m0 m1 m2 w hcap hbig hg (hc 0 m0 1 _ rfl rfl) (hc 1 m1 0 _ rfl rfl) (hc 2 m2 0 _ rfl rfl)).mono ?_
      rintro e w' ⟨rfl, hb⟩
      exact ⟨⟨0, 8, m0.v.s, nul, m1.v.n, 0, 0, 0, 0, m2.v.n, noB⟩, rfl, rfl, rfl, hb⟩
  · have hl3 : ms.length = 3 := hl2
    obtain rfl : n = 3 := by omega
    obtain ⟨gv, rfl, hg, hc⟩ := h.cellAt (by omega)
    match ms, hl3 with
    | [m0, m1, m2], _ =>
      refine (refAmade_9 gv c m0 m1 m2 w hcap hbig hg (hc 0 m0 1 _ rfl rfl) (hc 1 m1 1 _ rfl rfl) (hc 2 m2 0 _ rfl rfl)).mono ?_
      rintro e w' ⟨rfl, hb⟩
      exact ⟨⟨0, 9, m1.v.s, m0.v.s, m2.v.n, 0, 0, 0, 0, 0, noB⟩, rfl, rfl, rfl, hb⟩
set_option maxRecDepth 100000 in
set_option maxHeartbeats 4000000 in
theorem refEntOf_any (a : Ask) (A : Option Addr) (n c : Nat) (w : World) : Calls Tryz.prog 31 #[.agg #[.int .i64 a.corr, .int .i64 a.kind, .string a.topic, .string a.group, .int .i64 a.part, .int .i64 a.parts, .int .i64 a.first, .int .i64 a.off, .int .i64 a.most, .int .i64 a.time, .int .i64 a.bat.time, .int .i64 a.bat.prod, .int .i64 a.bat.seq, .slice A n c]] w fun er w' => er = .returned (.agg #[.int .i64 a.kind, .string a.topic, .string a.group, .int .i64 a.part, .int .i64 a.parts, .int .i64 a.first, .int .i64 a.off, .int .i64 a.bat.time, .int .i64 a.bat.prod, .int .i64 a.bat.seq, .slice A n c]) ∧ Below w.heap.size w w' := by
  have hbk := Bk.made w 47 #[.int .i64 a.corr, .int .i64 a.kind, .string a.topic, .string a.group, .int .i64 a.part, .int .i64 a.parts, .int .i64 a.first, .int .i64 a.off, .int .i64 a.most, .int .i64 a.time, .int .i64 a.bat.time, .int .i64 a.bat.prod, .int .i64 a.bat.seq, .slice A n c]
  have hlb := ldB_of_ask (hbk.alloc (.cells #[.int .i64 0, .string ⟨#[]⟩, .string ⟨#[]⟩, .int .i64 0, .int .i64 0, .int .i64 0, .int .i64 0, .int .i64 0, .int .i64 0, .int .i64 0, .slice none 0 0] 26))
  have hst := stE_newAt (w.alloc (.cells #[.int .i64 a.corr, .int .i64 a.kind, .string a.topic, .string a.group, .int .i64 a.part, .int .i64 a.parts, .int .i64 a.first, .int .i64 a.off, .int .i64 a.most, .int .i64 a.time, .int .i64 a.bat.time, .int .i64 a.bat.prod, .int .i64 a.bat.seq, .slice A n c] 47)) (w.heap.size + 1) (by simp) a.kind a.topic a.group a.part a.parts a.first a.off a.bat.time a.bat.prod a.bat.seq A n c #[.int .i64 0, .string ⟨#[]⟩, .string ⟨#[]⟩, .int .i64 0, .int .i64 0, .int .i64 0, .int .i64 0, .int .i64 0, .int .i64 0, .int .i64 0, .slice none 0 0] rfl
  have HB := Lib.hid (below_two w (.cells #[.int .i64 a.corr, .int .i64 a.kind, .string a.topic, .string a.group, .int .i64 a.part, .int .i64 a.parts, .int .i64 a.first, .int .i64 a.off, .int .i64 a.most, .int .i64 a.time, .int .i64 a.bat.time, .int .i64 a.bat.prod, .int .i64 a.bat.seq, .slice A n c] 47) (.cells #[.int .i64 a.kind, .string a.topic, .string a.group, .int .i64 a.part, .int .i64 a.parts, .int .i64 a.first, .int .i64 a.off, .int .i64 a.bat.time, .int .i64 a.bat.prod, .int .i64 a.bat.seq, .slice A n c] 26))
  have HK := Lib.hid (Bk.made_at (w.alloc (.cells #[.int .i64 a.corr, .int .i64 a.kind, .string a.topic, .string a.group, .int .i64 a.part, .int .i64 a.parts, .int .i64 a.first, .int .i64 a.off, .int .i64 a.most, .int .i64 a.time, .int .i64 a.bat.time, .int .i64 a.bat.prod, .int .i64 a.bat.seq, .slice A n c] 47)) (w.heap.size + 1) 26 #[.int .i64 a.kind, .string a.topic, .string a.group, .int .i64 a.part, .int .i64 a.parts, .int .i64 a.first, .int .i64 a.off, .int .i64 a.bat.time, .int .i64 a.bat.prod, .int .i64 a.bat.seq, .slice A n c] (by simp))
  clear hbk
  go_enter Tryz.func31, Tryz.ntmps31
  go_wp2_with fail
  exact bodyPost_ret (results_cell_row rfl _ _ (w.heap.size + 1) _ _ (0, 0) _ rfl HK.out Tryz.underlying26 rfl size_e) rfl ⟨rfl, HB.out⟩
set_option maxRecDepth 100000 in
theorem refWrites_any (k : Int) (w : World) : Calls Tryz.prog 29 #[.int .i64 k] w fun e w' => e = .returned (.bool (writK k)) ∧ w = w' := by
  have hw : writK k = (decide (1 ≤ k) && decide (k ≤ 5)) := by
    rw [Bool.eq_iff_iff, writ_iff]
    simp
  rw [hw]
  by_cases h1 : 1 ≤ k
  · by_cases h2 : k ≤ 5
    · go_enter Tryz.func29, Tryz.ntmps29
      go_wp2
      go_ret
      exact ⟨ret_bool (by first | rfl | (simp; done) | (simp; omega) | (rw [Bool.eq_iff_iff]; simp; omega)), rfl⟩
    · go_enter Tryz.func29, Tryz.ntmps29
      go_wp2
      go_ret
      exact ⟨ret_bool (by first | rfl | (simp; done) | (simp; omega) | (rw [Bool.eq_iff_iff]; simp; omega)), rfl⟩
  · go_enter Tryz.func29, Tryz.ntmps29
    go_wp2
    go_ret
    exact ⟨ret_bool (by first | rfl | (simp; done) | (simp; omega) | (rw [Bool.eq_iff_iff]; simp; omega)), rfl⟩
set_option maxRecDepth 100000 in
set_option maxHeartbeats 4000000 in
theorem refAskOf_any (e : Ent) (A : Option Addr) (n c : Nat) (w : World) : Calls Tryz.prog 63 #[.agg #[.int .i64 e.kind, .string e.topic, .string e.group, .int .i64 e.part, .int .i64 e.parts, .int .i64 e.first, .int .i64 e.off, .int .i64 e.bat.time, .int .i64 e.bat.prod, .int .i64 e.bat.seq, .slice A n c]] w fun er w' => er = .returned (.agg #[.int .i64 0, .int .i64 e.kind, .string e.topic, .string e.group, .int .i64 e.part, .int .i64 e.parts, .int .i64 e.first, .int .i64 e.off, .int .i64 0, .int .i64 0, .int .i64 e.bat.time, .int .i64 e.bat.prod, .int .i64 e.bat.seq, .slice A n c]) ∧ Below w.heap.size w w' := by
  have hbk := Bk.made w 26 #[.int .i64 e.kind, .string e.topic, .string e.group, .int .i64 e.part, .int .i64 e.parts, .int .i64 e.first, .int .i64 e.off, .int .i64 e.bat.time, .int .i64 e.bat.prod, .int .i64 e.bat.seq, .slice A n c]
  have hlb := ldB_of_ent (hbk.alloc (.cells #[.int .i64 0, .int .i64 0, .string ⟨#[]⟩, .string ⟨#[]⟩, .int .i64 0, .int .i64 0, .int .i64 0, .int .i64 0, .int .i64 0, .int .i64 0, .int .i64 0, .int .i64 0, .int .i64 0, .slice none 0 0] 47))
  have hst := stA_newAt (w.alloc (.cells #[.int .i64 e.kind, .string e.topic, .string e.group, .int .i64 e.part, .int .i64 e.parts, .int .i64 e.first, .int .i64 e.off, .int .i64 e.bat.time, .int .i64 e.bat.prod, .int .i64 e.bat.seq, .slice A n c] 26)) (w.heap.size + 1) (by simp) 0 e.kind e.topic e.group e.part e.parts e.first e.off 0 0 e.bat.time e.bat.prod e.bat.seq A n c #[.int .i64 0, .int .i64 0, .string ⟨#[]⟩, .string ⟨#[]⟩, .int .i64 0, .int .i64 0, .int .i64 0, .int .i64 0, .int .i64 0, .int .i64 0, .int .i64 0, .int .i64 0, .int .i64 0, .slice none 0 0] rfl
  have HB := Lib.hid (below_two w (.cells #[.int .i64 e.kind, .string e.topic, .string e.group, .int .i64 e.part, .int .i64 e.parts, .int .i64 e.first, .int .i64 e.off, .int .i64 e.bat.time, .int .i64 e.bat.prod, .int .i64 e.bat.seq, .slice A n c] 26) (.cells #[.int .i64 0, .int .i64 e.kind, .string e.topic, .string e.group, .int .i64 e.part, .int .i64 e.parts, .int .i64 e.first, .int .i64 e.off, .int .i64 0, .int .i64 0, .int .i64 e.bat.time, .int .i64 e.bat.prod, .int .i64 e.bat.seq, .slice A n c] 47))
  have HK := Lib.hid (Bk.made_at (w.alloc (.cells #[.int .i64 e.kind, .string e.topic, .string e.group, .int .i64 e.part, .int .i64 e.parts, .int .i64 e.first, .int .i64 e.off, .int .i64 e.bat.time, .int .i64 e.bat.prod, .int .i64 e.bat.seq, .slice A n c] 26)) (w.heap.size + 1) 47 #[.int .i64 0, .int .i64 e.kind, .string e.topic, .string e.group, .int .i64 e.part, .int .i64 e.parts, .int .i64 e.first, .int .i64 e.off, .int .i64 0, .int .i64 0, .int .i64 e.bat.time, .int .i64 e.bat.prod, .int .i64 e.bat.seq, .slice A n c] (by simp))
  clear hbk
  go_enter Tryz.func63, Tryz.ntmps63
  go_wp2_with fail
  exact bodyPost_ret (results_cell_row rfl _ _ (w.heap.size + 1) _ _ (0, 0) _ rfl HK.out Tryz.underlying47 rfl size_a) rfl ⟨rfl, HB.out⟩
/-- the fields of an ask's kind -/
def fldsQ (k : Int) : List Fld := if writK k then fldsE k else fldsA k
theorem fldsQ_w {k : Int} (h : writK k = true) : fldsQ k = fldsE k := by unfold fldsQ; rw [if_pos h]
theorem fldsQ_r {k : Int} (h : writK k = false) : fldsQ k = fldsA k := by unfold fldsQ; rw [if_neg (by rw [h]; decide)]
theorem qRdF {k : Int} {w' : World} {g : Nat} {t : TypeId} {cs : Array Value} {n : Nat} (hb : Bk w' g t cs) (hc : cs = ((fldsQ k).flatMap Fld.cells).toArray) (hn : (fldsQ k).length = n) (hn' : n ≤ 100) : RdF w' (some ⟨g, 0, none⟩) n n (fldsQ k) :=
  RdK.of_bk hb Fld.cells f5 (fldsQ k) hc n n hn (Nat.le_refl _) (by omega)
set_option maxRecDepth 100000 in
set_option maxHeartbeats 4000000 in
theorem refAFlds_any (k : Int) (w : World) :
    Calls Tryz.prog 58 #[.int .i64 k] w fun e w' => ∃ A n c, e = .returned (.slice A n c) ∧ RdF w' A n c (fldsQ k) ∧ n ≤ 100 ∧ A.isSome = decide (1 ≤ k ∧ k ≤ 9) ∧ Below w.heap.size w w' := by
  have hk : k = 1 ∨ k = 2 ∨ k = 3 ∨ k = 4 ∨ k = 5 ∨ k = 6 ∨ k = 7 ∨ k = 8 ∨ k = 9 ∨ ((k == 1) = false ∧ (k == 2) = false ∧ (k == 3) = false ∧ (k == 4) = false ∧ (k == 5) = false ∧ (k == 6) = false ∧ (k == 7) = false ∧ (k == 8) = false ∧ (k == 9) = false) := by
    simp only [beq_eq_false_iff_ne]
    omega
  have HNm : Hid (∀ w', Below w.heap.size w w' → Calls Tryz.prog 74 #[] w' fun e w'' => e = .returned (.agg #[.int .i64 2, .int .i64 0, .int .i64 1, .int .i64 24, .int .i64 0]) ∧ Below w.heap.size w w'' ∧ w.heap.size ≤ w''.heap.size) := fun w' h => refName_fld w' _ _ h h.size
  have HOf : Hid (∀ w', Below w.heap.size w w' → Calls Tryz.prog 75 #[] w' fun e w'' => e = .returned (.agg #[.int .i64 1, .int .i64 8, .int .i64 0, .int .i64 9223372036854775807, .int .i64 0]) ∧ Below w.heap.size w w'' ∧ w.heap.size ≤ w''.heap.size) := fun w' h => refOff_fld w' _ _ h h.size
  have HPa : Hid (∀ w', Below w.heap.size w w' → Calls Tryz.prog 76 #[] w' fun e w'' => e = .returned (.agg #[.int .i64 1, .int .i64 1, .int .i64 0, .int .i64 3, .int .i64 0]) ∧ Below w.heap.size w w'' ∧ w.heap.size ≤ w''.heap.size) := fun w' h => refPart_fld w' _ _ h h.size
  have HMo : Hid (∀ w', Below w.heap.size w w' → Calls Tryz.prog 94 #[.int .i64 4, .int .i64 1048576] w' fun e w'' => e = .returned (.agg #[.int .i64 1, .int .i64 4, .int .i64 0, .int .i64 1048576, .int .i64 0]) ∧ Below w.heap.size w w'' ∧ w.heap.size ≤ w''.heap.size) := fun w' h => refNum_fld 4 1048576 w' _ _ h h.size
  have HTi : Hid (∀ w', Below w.heap.size w w' → Calls Tryz.prog 94 #[.int .i64 8, .int .i64 1125899906842624] w' fun e w'' => e = .returned (.agg #[.int .i64 1, .int .i64 8, .int .i64 0, .int .i64 1125899906842624, .int .i64 0]) ∧ Below w.heap.size w w'' ∧ w.heap.size ≤ w''.heap.size) := fun w' h => refNum_fld 8 1125899906842624 w' _ _ h h.size
  rcases hk with rfl | rfl | rfl | rfl | rfl | rfl | rfl | rfl | rfl | ⟨k1, k2, k3, k4, k5, k6, k7, k8, k9⟩
  · have HF := Lib.hid (refFlds_any 1 w)
    go_enter Tryz.func58, Tryz.ntmps58
    go_wp2_with fail
    with_reducible refine HF.out.mono ?_
    rintro e w3 ⟨v3, rfl, hf3, hb3⟩
    obtain ⟨A, n, c, rfl, hrf, hn, hA⟩ := hf3
    go_wp2_with fail
    go_ret
    exact ⟨A, n, c, rfl, hrf, hn, hA, hb3⟩
  · have HF := Lib.hid (refFlds_any 2 w)
    go_enter Tryz.func58, Tryz.ntmps58
    go_wp2_with fail
    with_reducible refine HF.out.mono ?_
    rintro e w3 ⟨v3, rfl, hf3, hb3⟩
    obtain ⟨A, n, c, rfl, hrf, hn, hA⟩ := hf3
    go_wp2_with fail
    go_ret
    exact ⟨A, n, c, rfl, hrf, hn, hA, hb3⟩
  · have HF := Lib.hid (refFlds_any 3 w)
    go_enter Tryz.func58, Tryz.ntmps58
    go_wp2_with fail
    with_reducible refine HF.out.mono ?_
    rintro e w3 ⟨v3, rfl, hf3, hb3⟩
    obtain ⟨A, n, c, rfl, hrf, hn, hA⟩ := hf3
    go_wp2_with fail
    go_ret
    exact ⟨A, n, c, rfl, hrf, hn, hA, hb3⟩
  · have HF := Lib.hid (refFlds_any 4 w)
    go_enter Tryz.func58, Tryz.ntmps58
    go_wp2_with fail
    with_reducible refine HF.out.mono ?_
    rintro e w3 ⟨v3, rfl, hf3, hb3⟩
    obtain ⟨A, n, c, rfl, hrf, hn, hA⟩ := hf3
    go_wp2_with fail
    go_ret
    exact ⟨A, n, c, rfl, hrf, hn, hA, hb3⟩
  · have HF := Lib.hid (refFlds_any 5 w)
    go_enter Tryz.func58, Tryz.ntmps58
    go_wp2_with fail
    with_reducible refine HF.out.mono ?_
    rintro e w3 ⟨v3, rfl, hf3, hb3⟩
    obtain ⟨A, n, c, rfl, hrf, hn, hA⟩ := hf3
    go_wp2_with fail
    go_ret
    exact ⟨A, n, c, rfl, hrf, hn, hA, hb3⟩
  · go_enter Tryz.func58, Tryz.ntmps58
    go_wp2_with fail
    go_ret
    exact ⟨_, 0, 0, rfl, qRdF (Bk.made w _ _) rfl rfl (by omega), by omega, rfl, (Below.refl _ _).alloc (Nat.le_refl _) _⟩
  · go_enter Tryz.func58, Tryz.ntmps58
    go_wp2_with fail
    with_reducible refine (HNm.out _ (Below.refl _ _)).mono ?_
    rintro e w3 ⟨rfl, hb3, hs3⟩
    go_wp2_with fail
    with_reducible refine (HPa.out _ hb3).mono ?_
    rintro e w4 ⟨rfl, hb4, hs4⟩
    go_wp2_with fail
    with_reducible refine (HOf.out _ hb4).mono ?_
    rintro e w5 ⟨rfl, hb5, hs5⟩
    go_wp2_with fail
    with_reducible refine (HMo.out _ hb5).mono ?_
    rintro e w6 ⟨rfl, hb6, hs6⟩
    go_wp2_with fail
    go_ret
    exact ⟨_, 4, 4, rfl, qRdF (Bk.made w6 _ _) rfl rfl (by omega), by omega, rfl, hb6.alloc hs6 _⟩
  · go_enter Tryz.func58, Tryz.ntmps58
    go_wp2_with fail
    with_reducible refine (HNm.out _ (Below.refl _ _)).mono ?_
    rintro e w3 ⟨rfl, hb3, hs3⟩
    go_wp2_with fail
    with_reducible refine (HPa.out _ hb3).mono ?_
    rintro e w4 ⟨rfl, hb4, hs4⟩
    go_wp2_with fail
    with_reducible refine (HTi.out _ hb4).mono ?_
    rintro e w5 ⟨rfl, hb5, hs5⟩
    go_wp2_with fail
    go_ret
    exact ⟨_, 3, 3, rfl, qRdF (Bk.made w5 _ _) rfl rfl (by omega), by omega, rfl, hb5.alloc hs5 _⟩
  · go_enter Tryz.func58, Tryz.ntmps58
    go_wp2_with fail
    with_reducible refine (HNm.out _ (Below.refl _ _)).mono ?_
    rintro e w3 ⟨rfl, hb3, hs3⟩
    go_wp2_with fail
    with_reducible refine (HNm.out _ hb3).mono ?_
    rintro e w4 ⟨rfl, hb4, hs4⟩
    go_wp2_with fail
    with_reducible refine (HPa.out _ hb4).mono ?_
    rintro e w5 ⟨rfl, hb5, hs5⟩
    go_wp2_with fail
    go_ret
    exact ⟨_, 3, 3, rfl, qRdF (Bk.made w5 _ _) rfl rfl (by omega), by omega, rfl, hb5.alloc hs5 _⟩
  · go_enter Tryz.func58, Tryz.ntmps58
    go_wp2_with fail
    go_ret
    simp only [beq_eq_false_iff_ne] at k1 k2 k3 k4 k5 k6 k7 k8 k9
    refine ⟨none, 0, 0, rfl, ?_, by omega, by rw [decide_eq_false (by omega)]; rfl, Below.refl _ _⟩
    have e : fldsQ k = [] := by
      unfold fldsQ writK fldsA
      simp [k1, k2, k3, k4, k5, k7, k8, k9]
    rw [e]
    exact RdK.nil _ _
end Go.Proofs.YtpfdbbcfcimmfaaGreatDoor
