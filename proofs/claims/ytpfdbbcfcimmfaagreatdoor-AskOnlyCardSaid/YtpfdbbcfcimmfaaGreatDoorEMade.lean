/-
  entry: made.
-/
import Derived.Test.YtpfdbbcfcimmfaaGreatDoorEBat3
namespace Go.Proofs.YtpfdbbcfcimmfaaGreatDoor
open Go.RowKit
attribute [local go_sem ↓] ldB_eq stB_eq sliced_past
attribute [local go_sem] pastA_zero pastA_some

def ldE (v : Value) : Sem Value := Instr.loadAt 26 v
theorem ldE_eq (v : Value) : Instr.loadAt 26 v = ldE v := rfl
def stE (v u : Value) : Sem Unit := Instr.storeAt 26 v u
theorem stE_eq (v u : Value) : Instr.storeAt 26 v u = stE v u := rfl
theorem size_e : (Tryz.prog.info? 26).map (·.size) = some 11 := by kernel_rfl
/-- an entry's cells -/
def eC (k : Int) (t g : ByteArray) (part parts first off time prod seq : Int) (A : Option Addr) (n c : Nat) : Array Value := #[.int .i64 k, .string t, .string g, .int .i64 part, .int .i64 parts, .int .i64 first, .int .i64 off, .int .i64 time, .int .i64 prod, .int .i64 seq, .slice A n c]
theorem ldE_bk {w : World} {G : Nat} {k : Int} {t g : ByteArray} {part parts first off time prod seq : Int} {A : Option Addr} {n c : Nat} (h : Bk w G 26 #[.int .i64 k, .string t, .string g, .int .i64 part, .int .i64 parts, .int .i64 first, .int .i64 off, .int .i64 time, .int .i64 prod, .int .i64 seq, .slice A n c]) :
    (ldE (.pointer (some ⟨G, 0, none⟩))).run Tryz.prog w = .ok (.agg #[.int .i64 k, .string t, .string g, .int .i64 part, .int .i64 parts, .int .i64 first, .int .i64 off, .int .i64 time, .int .i64 prod, .int .i64 seq, .slice A n c]) w := by
  unfold ldE
  simp only [Instr.loadAt, Instr.sureAddr, Sem.run_bind, Sem.run_pure, Result.andThen_ok, run_loadVar_row w G _ _ _ (0, 0) _ h Tryz.underlying26 rfl size_e]
theorem stE_row {w : World} {G : Nat} {old : Array Value} (h : Bk w G 26 old) (ho : old.size = 11) (k : Int) (t g : ByteArray) (part parts first off time prod seq : Int) (A : Option Addr) (n c : Nat) :
    (stE (.pointer (some ⟨G, 0, none⟩)) (.agg #[.int .i64 k, .string t, .string g, .int .i64 part, .int .i64 parts, .int .i64 first, .int .i64 off, .int .i64 time, .int .i64 prod, .int .i64 seq, .slice A n c])).run Tryz.prog w = .ok () (w.setRow G #[.int .i64 k, .string t, .string g, .int .i64 part, .int .i64 parts, .int .i64 first, .int .i64 off, .int .i64 time, .int .i64 prod, .int .i64 seq, .slice A n c]) := by
  unfold stE
  simp only [Instr.storeAt, Instr.sureAddr, Sem.run_bind, Sem.run_pure, Result.andThen_ok, run_storeVar_row w G _ _ old #[.int .i64 k, .string t, .string g, .int .i64 part, .int .i64 parts, .int .i64 first, .int .i64 off, .int .i64 time, .int .i64 prod, .int .i64 seq, .slice A n c] h size_e (by rw [ho]; rfl) (all_oneCell_toArray (one_all rfl))]
theorem stE_new (w : World) (k : Int) (t g : ByteArray) (part parts first off time prod seq : Int) (A : Option Addr) (n c : Nat) (old : Array Value) (ho : old.size = 11) :
    (stE (.pointer (some ⟨w.heap.size, 0, none⟩)) (.agg #[.int .i64 k, .string t, .string g, .int .i64 part, .int .i64 parts, .int .i64 first, .int .i64 off, .int .i64 time, .int .i64 prod, .int .i64 seq, .slice A n c])).run Tryz.prog (w.alloc (.cells old 26)) = .ok () (w.alloc (.cells #[.int .i64 k, .string t, .string g, .int .i64 part, .int .i64 parts, .int .i64 first, .int .i64 off, .int .i64 time, .int .i64 prod, .int .i64 seq, .slice A n c] 26)) := by
  exact run_storeAt_new w 26 _ _ size_e ho (all_oneCell_toArray (one_all rfl))
theorem stE_newAt (w : World) (G : Nat) (hG : G = w.heap.size) (k : Int) (t g : ByteArray) (part parts first off time prod seq : Int) (A : Option Addr) (n c : Nat) (old : Array Value) (ho : old.size = 11) :
    (stE (.pointer (some ⟨G, 0, none⟩)) (.agg #[.int .i64 k, .string t, .string g, .int .i64 part, .int .i64 parts, .int .i64 first, .int .i64 off, .int .i64 time, .int .i64 prod, .int .i64 seq, .slice A n c])).run Tryz.prog (w.alloc (.cells old 26)) = .ok () (w.alloc (.cells #[.int .i64 k, .string t, .string g, .int .i64 part, .int .i64 parts, .int .i64 first, .int .i64 off, .int .i64 time, .int .i64 prod, .int .i64 seq, .slice A n c] 26)) := by
  subst hG
  exact stE_new w k t g part parts first off time prod seq A n c old ho
theorem res_ent {fn : Func} {p u : Tmp} (h : fn.results = #[.cell p 26, .tmp u]) (tmps : Array Value) (w : World) (G : Nat) (k : Int) (t g : ByteArray) (part parts first off time prod seq : Int) (A : Option Addr) (n c : Nat) (hp : tmps.getD p undef = .pointer (some ⟨G, 0, none⟩))
    (hb : Bk w G 26 #[.int .i64 k, .string t, .string g, .int .i64 part, .int .i64 parts, .int .i64 first, .int .i64 off, .int .i64 time, .int .i64 prod, .int .i64 seq, .slice A n c]) :
    (results fn tmps).run Tryz.prog w = .ok (.tuple #[.agg #[.int .i64 k, .string t, .string g, .int .i64 part, .int .i64 parts, .int .i64 first, .int .i64 off, .int .i64 time, .int .i64 prod, .int .i64 seq, .slice A n c], tmps.getD u undef]) w := by
  rw [results_cell_tmp h, hp]
  simp only [asAddr, Sem.run_pure, Result.andThen_ok, run_loadVar_row w G _ _ _ (0, 0) _ hb Tryz.underlying26 rfl size_e]
attribute [local go_sem ↓] ldE_eq stE_eq
/-- what made hands back -/
def MadeR (k : Int) (vs : List Val) (B : Nat) (w' : World) (x : Ent) (A : Option Addr) (n c : Nat) (v : Value) : Prop :=
  x = madeE k vs ∧ RdT w' A n c x.bat.vals ∧ (∀ ad, A = some ad → B ≤ ad.block) ∧ ((v = .nilIface ∧ badE k vs = none) ∨ (∃ d e, IsErr d v e ∧ badE k vs = some e))
def zE : Array Value := #[.int .i64 0, .string ⟨#[]⟩, .string ⟨#[]⟩, .int .i64 0, .int .i64 0, .int .i64 0, .int .i64 0, .int .i64 0, .int .i64 0, .int .i64 0, .slice none 0 0]
/-- the two blocks that made lays first -/
theorem two_ent (w : World) (k : Int) (t g : ByteArray) (part parts first off time prod seq : Int) (A : Option Addr) (n c : Nat) :
    Bk ((w.alloc (.cells zE 26)).alloc (.cells #[.int .i64 k, .string t, .string g, .int .i64 part, .int .i64 parts, .int .i64 first, .int .i64 off, .int .i64 time, .int .i64 prod, .int .i64 seq, .slice A n c] 26)) w.heap.size 26 zE ∧
    Bk ((w.alloc (.cells zE 26)).alloc (.cells #[.int .i64 k, .string t, .string g, .int .i64 part, .int .i64 parts, .int .i64 first, .int .i64 off, .int .i64 time, .int .i64 prod, .int .i64 seq, .slice A n c] 26)) (w.heap.size + 1) 26 #[.int .i64 k, .string t, .string g, .int .i64 part, .int .i64 parts, .int .i64 first, .int .i64 off, .int .i64 time, .int .i64 prod, .int .i64 seq, .slice A n c] :=
  ⟨(Bk.made w _ _).alloc _, Bk.made_at _ _ _ _ (by simp)⟩
theorem below_two (w : World) (o1 o2 : Obj) : Below w.heap.size w ((w.alloc o1).alloc o2) := ((Below.refl _ _).alloc (Nat.le_refl _) _).alloc (by simp) _
set_option maxRecDepth 100000 in
set_option maxHeartbeats 4000000 in
theorem made_1 (gv c : Nat) (m0 m1 m2 : MVal) (w : World) (_hc : 3 ≤ c) (_hc' : c ≤ 9223372036854775807) (hg : gv < w.heap.size) (d0 : w.cell? ⟨gv, 1, none⟩ = some (.string m0.v.s)) (d1 : w.cell? ⟨gv, 3, none⟩ = some (.int .i64 m1.v.n)) (d2 : w.cell? ⟨gv, 6, none⟩ = some (.int .i64 m2.v.n)) :
    Calls Tryz.prog 39 #[.int .i64 1, .slice (some ⟨gv, 0, none⟩) 3 c] w fun e w' => e = .returned (.tuple #[.agg #[.int .i64 1, .string m0.v.s, .string ⟨#[]⟩, .int .i64 0, .int .i64 m1.v.n, .int .i64 m2.v.n, .int .i64 0, .int .i64 0, .int .i64 0, .int .i64 0, .slice none 0 0], .nilIface]) ∧ Below w.heap.size w w' := by
  have hst0 := stE_newAt (w.alloc (.cells zE 26)) (w.heap.size + 1) (by simp) 1 ⟨#[]⟩ ⟨#[]⟩ 0 0 0 0 0 0 0 none 0 0 zE rfl
  have hld := ldE_bk (Bk.drawn1 ((two_ent w 1 m0.v.s ⟨#[]⟩ 0 m1.v.n m2.v.n 0 0 0 0 none 0 0).2))
  have hst := stE_row (Bk.drawn1 ((two_ent w 1 m0.v.s ⟨#[]⟩ 0 m1.v.n m2.v.n 0 0 0 0 none 0 0).1)) rfl 1 m0.v.s ⟨#[]⟩ 0 m1.v.n m2.v.n 0 0 0 0 none 0 0
  have hbk := Lib.hid (Bk.drawn1 ((two_ent w 1 m0.v.s ⟨#[]⟩ 0 m1.v.n m2.v.n 0 0 0 0 none 0 0).1))
  have hbl := Lib.hid (show Below w.heap.size w _ from below_row (below_drew1 (below_two w (.cells zE 26) (.cells #[.int .i64 1, .string m0.v.s, .string ⟨#[]⟩, .int .i64 0, .int .i64 m1.v.n, .int .i64 m2.v.n, .int .i64 0, .int .i64 0, .int .i64 0, .int .i64 0, .slice none 0 0] 26))) (Nat.le_trans (Nat.le_refl _) (Below.size (below_drew1 (below_two w (.cells zE 26) (.cells #[.int .i64 1, .string m0.v.s, .string ⟨#[]⟩, .int .i64 0, .int .i64 m1.v.n, .int .i64 m2.v.n, .int .i64 0, .int .i64 0, .int .i64 0, .int .i64 0, .slice none 0 0] 26))))) (Nat.le_refl _) #[.int .i64 1, .string m0.v.s, .string ⟨#[]⟩, .int .i64 0, .int .i64 m1.v.n, .int .i64 m2.v.n, .int .i64 0, .int .i64 0, .int .i64 0, .int .i64 0, .slice none 0 0])
  simp only [zE] at hst0 hld hst hbl
  have FS : Hid (∀ w', Below w.heap.size w w' → (Below w.heap.size w w' ∧ w'.cell? ⟨gv, 1, none⟩ = some (.string m0.v.s) ∧ w'.cell? ⟨gv, 3, none⟩ = some (.int .i64 m1.v.n) ∧ w'.cell? ⟨gv, 6, none⟩ = some (.int .i64 m2.v.n))) := fun w' hb => ⟨hb, (hb.cell (p := ⟨gv, 1, none⟩) hg).trans d0, (hb.cell (p := ⟨gv, 3, none⟩) hg).trans d1, (hb.cell (p := ⟨gv, 6, none⟩) hg).trans d2⟩
  clear d0 d1 d2
  go_enter Tryz.func39, Tryz.ntmps39
  go_wp2_with fail
  go_region_held3 (fun w' => Below w.heap.size w w' ∧ w'.cell? ⟨gv, 1, none⟩ = some (.string m0.v.s) ∧ w'.cell? ⟨gv, 3, none⟩ = some (.int .i64 m1.v.n) ∧ w'.cell? ⟨gv, 6, none⟩ = some (.int .i64 m2.v.n)) (first | exact FS.out _ (below_drew1 (below_two w _ _)) | exact FS.out _ (below_two w _ _)) (first | fail)
  all_goals (go_wp2_with fail)
  all_goals exact bodyPost_ret (res_ent (u := 5) rfl _ _ w.heap.size 1 m0.v.s ⟨#[]⟩ 0 m1.v.n m2.v.n 0 0 0 0 none 0 0 rfl (Bk.row hbk.out _)) rfl ⟨rfl, hbl.out⟩
set_option maxRecDepth 100000 in
set_option maxHeartbeats 4000000 in
theorem made_2 (gv c : Nat) (m0 : MVal) (w : World) (_hc : 1 ≤ c) (_hc' : c ≤ 9223372036854775807) (hg : gv < w.heap.size) (d0 : w.cell? ⟨gv, 1, none⟩ = some (.string m0.v.s)) :
    Calls Tryz.prog 39 #[.int .i64 2, .slice (some ⟨gv, 0, none⟩) 1 c] w fun e w' => e = .returned (.tuple #[.agg #[.int .i64 2, .string m0.v.s, .string ⟨#[]⟩, .int .i64 0, .int .i64 0, .int .i64 0, .int .i64 0, .int .i64 0, .int .i64 0, .int .i64 0, .slice none 0 0], .nilIface]) ∧ Below w.heap.size w w' := by
  have hst0 := stE_newAt (w.alloc (.cells zE 26)) (w.heap.size + 1) (by simp) 2 ⟨#[]⟩ ⟨#[]⟩ 0 0 0 0 0 0 0 none 0 0 zE rfl
  have hld := ldE_bk ((two_ent w 2 m0.v.s ⟨#[]⟩ 0 0 0 0 0 0 0 none 0 0).2)
  have hst := stE_row ((two_ent w 2 m0.v.s ⟨#[]⟩ 0 0 0 0 0 0 0 none 0 0).1) rfl 2 m0.v.s ⟨#[]⟩ 0 0 0 0 0 0 0 none 0 0
  have hbk := Lib.hid ((two_ent w 2 m0.v.s ⟨#[]⟩ 0 0 0 0 0 0 0 none 0 0).1)
  have hbl := Lib.hid (show Below w.heap.size w _ from below_row (below_two w (.cells zE 26) (.cells #[.int .i64 2, .string m0.v.s, .string ⟨#[]⟩, .int .i64 0, .int .i64 0, .int .i64 0, .int .i64 0, .int .i64 0, .int .i64 0, .int .i64 0, .slice none 0 0] 26)) (Nat.le_trans (Nat.le_refl _) (Below.size (below_two w (.cells zE 26) (.cells #[.int .i64 2, .string m0.v.s, .string ⟨#[]⟩, .int .i64 0, .int .i64 0, .int .i64 0, .int .i64 0, .int .i64 0, .int .i64 0, .int .i64 0, .slice none 0 0] 26)))) (Nat.le_refl _) #[.int .i64 2, .string m0.v.s, .string ⟨#[]⟩, .int .i64 0, .int .i64 0, .int .i64 0, .int .i64 0, .int .i64 0, .int .i64 0, .int .i64 0, .slice none 0 0])
  simp only [zE] at hst0 hld hst hbl
  have e0 := fun o1 o2 => ((below_two w o1 o2).cell (p := ⟨gv, 1, none⟩) hg).trans d0
  go_enter Tryz.func39, Tryz.ntmps39
  go_wp2_with fail
  all_goals exact bodyPost_ret (res_ent (u := 5) rfl _ _ w.heap.size 2 m0.v.s ⟨#[]⟩ 0 0 0 0 0 0 0 none 0 0 rfl (Bk.row hbk.out _)) rfl ⟨rfl, hbl.out⟩
set_option maxRecDepth 100000 in
set_option maxHeartbeats 4000000 in
theorem made_5 (gv c : Nat) (m0 m1 m2 : MVal) (w : World) (_hc : 3 ≤ c) (_hc' : c ≤ 9223372036854775807) (hg : gv < w.heap.size) (d0 : w.cell? ⟨gv, 1, none⟩ = some (.string m0.v.s)) (d1 : w.cell? ⟨gv, 3, none⟩ = some (.int .i64 m1.v.n)) (d2 : w.cell? ⟨gv, 6, none⟩ = some (.int .i64 m2.v.n)) :
    Calls Tryz.prog 39 #[.int .i64 5, .slice (some ⟨gv, 0, none⟩) 3 c] w fun e w' => e = .returned (.tuple #[.agg #[.int .i64 5, .string m0.v.s, .string ⟨#[]⟩, .int .i64 m1.v.n, .int .i64 0, .int .i64 0, .int .i64 m2.v.n, .int .i64 0, .int .i64 0, .int .i64 0, .slice none 0 0], .nilIface]) ∧ Below w.heap.size w w' := by
  have hst0 := stE_newAt (w.alloc (.cells zE 26)) (w.heap.size + 1) (by simp) 5 ⟨#[]⟩ ⟨#[]⟩ 0 0 0 0 0 0 0 none 0 0 zE rfl
  have hld := ldE_bk (Bk.drawn1 ((two_ent w 5 m0.v.s ⟨#[]⟩ m1.v.n 0 0 m2.v.n 0 0 0 none 0 0).2))
  have hst := stE_row (Bk.drawn1 ((two_ent w 5 m0.v.s ⟨#[]⟩ m1.v.n 0 0 m2.v.n 0 0 0 none 0 0).1)) rfl 5 m0.v.s ⟨#[]⟩ m1.v.n 0 0 m2.v.n 0 0 0 none 0 0
  have hbk := Lib.hid (Bk.drawn1 ((two_ent w 5 m0.v.s ⟨#[]⟩ m1.v.n 0 0 m2.v.n 0 0 0 none 0 0).1))
  have hbl := Lib.hid (show Below w.heap.size w _ from below_row (below_drew1 (below_two w (.cells zE 26) (.cells #[.int .i64 5, .string m0.v.s, .string ⟨#[]⟩, .int .i64 m1.v.n, .int .i64 0, .int .i64 0, .int .i64 m2.v.n, .int .i64 0, .int .i64 0, .int .i64 0, .slice none 0 0] 26))) (Nat.le_trans (Nat.le_refl _) (Below.size (below_drew1 (below_two w (.cells zE 26) (.cells #[.int .i64 5, .string m0.v.s, .string ⟨#[]⟩, .int .i64 m1.v.n, .int .i64 0, .int .i64 0, .int .i64 m2.v.n, .int .i64 0, .int .i64 0, .int .i64 0, .slice none 0 0] 26))))) (Nat.le_refl _) #[.int .i64 5, .string m0.v.s, .string ⟨#[]⟩, .int .i64 m1.v.n, .int .i64 0, .int .i64 0, .int .i64 m2.v.n, .int .i64 0, .int .i64 0, .int .i64 0, .slice none 0 0])
  simp only [zE] at hst0 hld hst hbl
  have FS : Hid (∀ w', Below w.heap.size w w' → (Below w.heap.size w w' ∧ w'.cell? ⟨gv, 1, none⟩ = some (.string m0.v.s) ∧ w'.cell? ⟨gv, 3, none⟩ = some (.int .i64 m1.v.n) ∧ w'.cell? ⟨gv, 6, none⟩ = some (.int .i64 m2.v.n))) := fun w' hb => ⟨hb, (hb.cell (p := ⟨gv, 1, none⟩) hg).trans d0, (hb.cell (p := ⟨gv, 3, none⟩) hg).trans d1, (hb.cell (p := ⟨gv, 6, none⟩) hg).trans d2⟩
  clear d0 d1 d2
  go_enter Tryz.func39, Tryz.ntmps39
  go_wp2_with fail
  go_region_held3 (fun w' => Below w.heap.size w w' ∧ w'.cell? ⟨gv, 1, none⟩ = some (.string m0.v.s) ∧ w'.cell? ⟨gv, 3, none⟩ = some (.int .i64 m1.v.n) ∧ w'.cell? ⟨gv, 6, none⟩ = some (.int .i64 m2.v.n)) (first | exact FS.out _ (below_drew1 (below_two w _ _)) | exact FS.out _ (below_two w _ _)) (first | fail)
  all_goals (go_wp2_with fail)
  all_goals exact bodyPost_ret (res_ent (u := 5) rfl _ _ w.heap.size 5 m0.v.s ⟨#[]⟩ m1.v.n 0 0 m2.v.n 0 0 0 none 0 0 rfl (Bk.row hbk.out _)) rfl ⟨rfl, hbl.out⟩
set_option maxRecDepth 100000 in
set_option maxHeartbeats 4000000 in
theorem made_4 (gv c : Nat) (m0 m1 m2 m3 : MVal) (w : World) (hc : 4 ≤ c) (hc' : c ≤ 9223372036854775807) (hg : gv < w.heap.size) (d0 : w.cell? ⟨gv, 1, none⟩ = some (.string m0.v.s)) (d1 : w.cell? ⟨gv, 4, none⟩ = some (.string m1.v.s)) (d2 : w.cell? ⟨gv, 6, none⟩ = some (.int .i64 m2.v.n)) (d3 : w.cell? ⟨gv, 9, none⟩ = some (.int .i64 m3.v.n)) :
    Calls Tryz.prog 39 #[.int .i64 4, .slice (some ⟨gv, 0, none⟩) 4 c] w fun e w' => e = .returned (.tuple #[.agg #[.int .i64 4, .string m1.v.s, .string m0.v.s, .int .i64 m2.v.n, .int .i64 0, .int .i64 0, .int .i64 m3.v.n, .int .i64 0, .int .i64 0, .int .i64 0, .slice none 0 0], .nilIface]) ∧ Below w.heap.size w w' := by
  have hst0 := stE_newAt (w.alloc (.cells zE 26)) (w.heap.size + 1) (by simp) 4 ⟨#[]⟩ ⟨#[]⟩ 0 0 0 0 0 0 0 none 0 0 zE rfl
  have hld := ldE_bk (Bk.drawn1 (Bk.drawn1 ((two_ent w 4 m1.v.s m0.v.s m2.v.n 0 0 m3.v.n 0 0 0 none 0 0).2)))
  have hst := stE_row (Bk.drawn1 (Bk.drawn1 ((two_ent w 4 m1.v.s m0.v.s m2.v.n 0 0 m3.v.n 0 0 0 none 0 0).1))) rfl 4 m1.v.s m0.v.s m2.v.n 0 0 m3.v.n 0 0 0 none 0 0
  have hbk := Lib.hid (Bk.drawn1 (Bk.drawn1 ((two_ent w 4 m1.v.s m0.v.s m2.v.n 0 0 m3.v.n 0 0 0 none 0 0).1)))
  have hbl := Lib.hid (show Below w.heap.size w _ from below_row (below_drew1 (below_drew1 (below_two w (.cells zE 26) (.cells #[.int .i64 4, .string m1.v.s, .string m0.v.s, .int .i64 m2.v.n, .int .i64 0, .int .i64 0, .int .i64 m3.v.n, .int .i64 0, .int .i64 0, .int .i64 0, .slice none 0 0] 26)))) (Nat.le_trans (Nat.le_refl _) (Below.size (below_drew1 (below_drew1 (below_two w (.cells zE 26) (.cells #[.int .i64 4, .string m1.v.s, .string m0.v.s, .int .i64 m2.v.n, .int .i64 0, .int .i64 0, .int .i64 m3.v.n, .int .i64 0, .int .i64 0, .int .i64 0, .slice none 0 0] 26)))))) (Nat.le_refl _) #[.int .i64 4, .string m1.v.s, .string m0.v.s, .int .i64 m2.v.n, .int .i64 0, .int .i64 0, .int .i64 m3.v.n, .int .i64 0, .int .i64 0, .int .i64 0, .slice none 0 0])
  simp only [zE] at hst0 hld hst hbl
  have FS : Hid (∀ w', Below w.heap.size w w' → (Below w.heap.size w w' ∧ w'.cell? ⟨gv, 1, none⟩ = some (.string m0.v.s) ∧ w'.cell? ⟨gv, 4, none⟩ = some (.string m1.v.s) ∧ w'.cell? ⟨gv, 6, none⟩ = some (.int .i64 m2.v.n) ∧ w'.cell? ⟨gv, 9, none⟩ = some (.int .i64 m3.v.n))) := fun w' hb => ⟨hb, (hb.cell (p := ⟨gv, 1, none⟩) hg).trans d0, (hb.cell (p := ⟨gv, 4, none⟩) hg).trans d1, (hb.cell (p := ⟨gv, 6, none⟩) hg).trans d2, (hb.cell (p := ⟨gv, 9, none⟩) hg).trans d3⟩
  clear d0 d1 d2 d3
  have hne : c ≠ 1 := by omega
  have h1c : (1 : Int) ≤ (c : Int) := by omega
  go_enter Tryz.func39, Tryz.ntmps39
  go_wp2_with fail
  go_region_held3 (fun w' => Below w.heap.size w w' ∧ w'.cell? ⟨gv, 1, none⟩ = some (.string m0.v.s) ∧ w'.cell? ⟨gv, 4, none⟩ = some (.string m1.v.s) ∧ w'.cell? ⟨gv, 6, none⟩ = some (.int .i64 m2.v.n) ∧ w'.cell? ⟨gv, 9, none⟩ = some (.int .i64 m3.v.n)) (first | exact FS.out _ (below_drew1 (below_two w _ _)) | exact FS.out _ (below_two w _ _)) (first | fail)
  all_goals (go_wp2_with fail)
  go_region_held3 (fun w' => Below w.heap.size w w' ∧ w'.cell? ⟨gv, 1, none⟩ = some (.string m0.v.s) ∧ w'.cell? ⟨gv, 4, none⟩ = some (.string m1.v.s) ∧ w'.cell? ⟨gv, 6, none⟩ = some (.int .i64 m2.v.n) ∧ w'.cell? ⟨gv, 9, none⟩ = some (.int .i64 m3.v.n)) (first | exact FS.out _ (below_drew1 (below_drew1 (below_two w _ _))) | exact FS.out _ (below_drew1 (below_two w _ _))) (first | fail)
  all_goals (go_wp2_with fail)
  all_goals exact bodyPost_ret (res_ent (u := 5) rfl _ _ w.heap.size 4 m1.v.s m0.v.s m2.v.n 0 0 m3.v.n 0 0 0 none 0 0 rfl (Bk.row hbk.out _)) rfl ⟨rfl, hbl.out⟩
end Go.Proofs.YtpfdbbcfcimmfaaGreatDoor
