import Derived.Test.YtkdlofgfkfhofaaGreatDoorP26
import Derived.Lib.ConvBytes
/-
  entry: made.
-/
namespace Go.Proofs.YtkdlofgfkfhofaaGreatDoor
open Go.RowKit
attribute [local go_sem ↓] ldB_eq stB_eq sliced_past
attribute [local go_sem] pastA_zero pastA_some

def ldE (v : Value) : Sem Value := Instr.loadAt 121 v
theorem ldE_eq (v : Value) : Instr.loadAt 121 v = ldE v := rfl
def stE (v u : Value) : Sem Unit := Instr.storeAt 121 v u
theorem stE_eq (v u : Value) : Instr.storeAt 121 v u = stE v u := rfl
theorem size_e : (Tryz.prog.info? 121).map (·.size) = some 11 := by kernel_rfl
/-- an entry's cells -/
def eC (k : Int) (t g : ByteArray) (part parts first off time prod seq : Int) (A : Option Addr) (n c : Nat) : Array Value := #[.int .i64 k, .string t, .string g, .int .i64 part, .int .i64 parts, .int .i64 first, .int .i64 off, .int .i64 time, .int .i64 prod, .int .i64 seq, .slice A n c]
theorem ldE_bk {w : World} {G : Nat} {k : Int} {t g : ByteArray} {part parts first off time prod seq : Int} {A : Option Addr} {n c : Nat} (h : Bk w G 121 #[.int .i64 k, .string t, .string g, .int .i64 part, .int .i64 parts, .int .i64 first, .int .i64 off, .int .i64 time, .int .i64 prod, .int .i64 seq, .slice A n c]) :
    (ldE (.pointer (some ⟨G, 0, none⟩))).run Tryz.prog w = .ok (.agg #[.int .i64 k, .string t, .string g, .int .i64 part, .int .i64 parts, .int .i64 first, .int .i64 off, .int .i64 time, .int .i64 prod, .int .i64 seq, .slice A n c]) w := by
  unfold ldE
  simp only [Instr.loadAt, Instr.sureAddr, Sem.run_bind, Sem.run_pure, Result.andThen_ok, run_loadVar_row w G _ _ _ (0, 0) _ h Tryz.underlying121 rfl size_e]
theorem stE_row {w : World} {G : Nat} {old : Array Value} (h : Bk w G 121 old) (ho : old.size = 11) (k : Int) (t g : ByteArray) (part parts first off time prod seq : Int) (A : Option Addr) (n c : Nat) :
    (stE (.pointer (some ⟨G, 0, none⟩)) (.agg #[.int .i64 k, .string t, .string g, .int .i64 part, .int .i64 parts, .int .i64 first, .int .i64 off, .int .i64 time, .int .i64 prod, .int .i64 seq, .slice A n c])).run Tryz.prog w = .ok () (w.setRow G #[.int .i64 k, .string t, .string g, .int .i64 part, .int .i64 parts, .int .i64 first, .int .i64 off, .int .i64 time, .int .i64 prod, .int .i64 seq, .slice A n c]) := by
  unfold stE
  simp only [Instr.storeAt, Instr.sureAddr, Sem.run_bind, Sem.run_pure, Result.andThen_ok, run_storeVar_row w G _ _ old #[.int .i64 k, .string t, .string g, .int .i64 part, .int .i64 parts, .int .i64 first, .int .i64 off, .int .i64 time, .int .i64 prod, .int .i64 seq, .slice A n c] h size_e (by rw [ho]; rfl) (all_oneCell_toArray (one_all rfl))]
theorem stE_new (w : World) (k : Int) (t g : ByteArray) (part parts first off time prod seq : Int) (A : Option Addr) (n c : Nat) (old : Array Value) (ho : old.size = 11) :
    (stE (.pointer (some ⟨w.heap.size, 0, none⟩)) (.agg #[.int .i64 k, .string t, .string g, .int .i64 part, .int .i64 parts, .int .i64 first, .int .i64 off, .int .i64 time, .int .i64 prod, .int .i64 seq, .slice A n c])).run Tryz.prog (w.alloc (.cells old 121)) = .ok () (w.alloc (.cells #[.int .i64 k, .string t, .string g, .int .i64 part, .int .i64 parts, .int .i64 first, .int .i64 off, .int .i64 time, .int .i64 prod, .int .i64 seq, .slice A n c] 121)) := by
  exact run_storeAt_new w 121 _ _ size_e ho (all_oneCell_toArray (one_all rfl))
theorem stE_newAt (w : World) (G : Nat) (hG : G = w.heap.size) (k : Int) (t g : ByteArray) (part parts first off time prod seq : Int) (A : Option Addr) (n c : Nat) (old : Array Value) (ho : old.size = 11) :
    (stE (.pointer (some ⟨G, 0, none⟩)) (.agg #[.int .i64 k, .string t, .string g, .int .i64 part, .int .i64 parts, .int .i64 first, .int .i64 off, .int .i64 time, .int .i64 prod, .int .i64 seq, .slice A n c])).run Tryz.prog (w.alloc (.cells old 121)) = .ok () (w.alloc (.cells #[.int .i64 k, .string t, .string g, .int .i64 part, .int .i64 parts, .int .i64 first, .int .i64 off, .int .i64 time, .int .i64 prod, .int .i64 seq, .slice A n c] 121)) := by
  subst hG
  exact stE_new w k t g part parts first off time prod seq A n c old ho
theorem res_ent {fn : Func} {p u : Tmp} (h : fn.results = #[.cell p 121, .tmp u]) (tmps : Array Value) (w : World) (G : Nat) (k : Int) (t g : ByteArray) (part parts first off time prod seq : Int) (A : Option Addr) (n c : Nat) (hp : tmps.getD p undef = .pointer (some ⟨G, 0, none⟩))
    (hb : Bk w G 121 #[.int .i64 k, .string t, .string g, .int .i64 part, .int .i64 parts, .int .i64 first, .int .i64 off, .int .i64 time, .int .i64 prod, .int .i64 seq, .slice A n c]) :
    (results fn tmps).run Tryz.prog w = .ok (.tuple #[.agg #[.int .i64 k, .string t, .string g, .int .i64 part, .int .i64 parts, .int .i64 first, .int .i64 off, .int .i64 time, .int .i64 prod, .int .i64 seq, .slice A n c], tmps.getD u undef]) w := by
  rw [results_cell_tmp h, hp]
  simp only [asAddr, Sem.run_pure, Result.andThen_ok, run_loadVar_row w G _ _ _ (0, 0) _ hb Tryz.underlying121 rfl size_e]
attribute [local go_sem ↓] ldE_eq stE_eq
/-- what made hands back -/
def MadeR (k : Int) (vs : List Val) (B : Nat) (w' : World) (x : Ent) (A : Option Addr) (n c : Nat) (v : Value) : Prop :=
  x = madeE k vs ∧ RdT w' A n c x.bat.vals ∧ (∀ ad, A = some ad → B ≤ ad.block) ∧ ((v = .nilIface ∧ badE k vs = none) ∨ (∃ d e, IsErr d v e ∧ badE k vs = some e))
def zE : Array Value := #[.int .i64 0, .string ⟨#[]⟩, .string ⟨#[]⟩, .int .i64 0, .int .i64 0, .int .i64 0, .int .i64 0, .int .i64 0, .int .i64 0, .int .i64 0, .slice none 0 0]
/-- the two blocks that made lays first -/
theorem two_ent (w : World) (k : Int) (t g : ByteArray) (part parts first off time prod seq : Int) (A : Option Addr) (n c : Nat) :
    Bk ((w.alloc (.cells zE 121)).alloc (.cells #[.int .i64 k, .string t, .string g, .int .i64 part, .int .i64 parts, .int .i64 first, .int .i64 off, .int .i64 time, .int .i64 prod, .int .i64 seq, .slice A n c] 121)) w.heap.size 121 zE ∧
    Bk ((w.alloc (.cells zE 121)).alloc (.cells #[.int .i64 k, .string t, .string g, .int .i64 part, .int .i64 parts, .int .i64 first, .int .i64 off, .int .i64 time, .int .i64 prod, .int .i64 seq, .slice A n c] 121)) (w.heap.size + 1) 121 #[.int .i64 k, .string t, .string g, .int .i64 part, .int .i64 parts, .int .i64 first, .int .i64 off, .int .i64 time, .int .i64 prod, .int .i64 seq, .slice A n c] :=
  ⟨(Bk.made w _ _).alloc _, Bk.made_at _ _ _ _ (by simp)⟩
theorem below_two (w : World) (o1 o2 : Obj) : Below w.heap.size w ((w.alloc o1).alloc o2) := ((Below.refl _ _).alloc (Nat.le_refl _) _).alloc (by simp) _
set_option maxRecDepth 100000 in
set_option maxHeartbeats 4000000 in
theorem made_1 (gv c : Nat) (m0 m1 m2 : MVal) (w : World) (_hc : 3 ≤ c) (_hc' : c ≤ 9223372036854775807) (hg : gv < w.heap.size) (d0 : w.cell? ⟨gv, 1, none⟩ = some (.string m0.v.s)) (d1 : w.cell? ⟨gv, 3, none⟩ = some (.int .i64 m1.v.n)) (d2 : w.cell? ⟨gv, 6, none⟩ = some (.int .i64 m2.v.n)) :
    Calls Tryz.prog 130 #[.int .i64 1, .slice (some ⟨gv, 0, none⟩) 3 c] w fun e w' => e = .returned (.tuple #[.agg #[.int .i64 1, .string m0.v.s, .string ⟨#[]⟩, .int .i64 0, .int .i64 m1.v.n, .int .i64 m2.v.n, .int .i64 0, .int .i64 0, .int .i64 0, .int .i64 0, .slice none 0 0], .nilIface]) ∧ Below w.heap.size w w' := by
  have hst0 := stE_newAt (w.alloc (.cells zE 121)) (w.heap.size + 1) (by simp) 1 ⟨#[]⟩ ⟨#[]⟩ 0 0 0 0 0 0 0 none 0 0 zE rfl
  have hld := ldE_bk (Bk.drawn1 ((two_ent w 1 m0.v.s ⟨#[]⟩ 0 m1.v.n m2.v.n 0 0 0 0 none 0 0).2))
  have hst := stE_row (Bk.drawn1 ((two_ent w 1 m0.v.s ⟨#[]⟩ 0 m1.v.n m2.v.n 0 0 0 0 none 0 0).1)) rfl 1 m0.v.s ⟨#[]⟩ 0 m1.v.n m2.v.n 0 0 0 0 none 0 0
  have hbk := Lib.hid (Bk.drawn1 ((two_ent w 1 m0.v.s ⟨#[]⟩ 0 m1.v.n m2.v.n 0 0 0 0 none 0 0).1))
  have hbl := Lib.hid (show Below w.heap.size w _ from below_row (below_drew1 (below_two w (.cells zE 121) (.cells #[.int .i64 1, .string m0.v.s, .string ⟨#[]⟩, .int .i64 0, .int .i64 m1.v.n, .int .i64 m2.v.n, .int .i64 0, .int .i64 0, .int .i64 0, .int .i64 0, .slice none 0 0] 121))) (Nat.le_trans (Nat.le_refl _) (Below.size (below_drew1 (below_two w (.cells zE 121) (.cells #[.int .i64 1, .string m0.v.s, .string ⟨#[]⟩, .int .i64 0, .int .i64 m1.v.n, .int .i64 m2.v.n, .int .i64 0, .int .i64 0, .int .i64 0, .int .i64 0, .slice none 0 0] 121))))) (Nat.le_refl _) #[.int .i64 1, .string m0.v.s, .string ⟨#[]⟩, .int .i64 0, .int .i64 m1.v.n, .int .i64 m2.v.n, .int .i64 0, .int .i64 0, .int .i64 0, .int .i64 0, .slice none 0 0])
  simp only [zE] at hst0 hld hst hbl
  have FS : Hid (∀ w', Below w.heap.size w w' → (Below w.heap.size w w' ∧ w'.cell? ⟨gv, 1, none⟩ = some (.string m0.v.s) ∧ w'.cell? ⟨gv, 3, none⟩ = some (.int .i64 m1.v.n) ∧ w'.cell? ⟨gv, 6, none⟩ = some (.int .i64 m2.v.n))) := fun w' hb => ⟨hb, (hb.cell (p := ⟨gv, 1, none⟩) hg).trans d0, (hb.cell (p := ⟨gv, 3, none⟩) hg).trans d1, (hb.cell (p := ⟨gv, 6, none⟩) hg).trans d2⟩
  clear d0 d1 d2
  go_enter Tryz.func130, Tryz.ntmps130
  go_wp2_with fail
  go_region_held3 (fun w' => Below w.heap.size w w' ∧ w'.cell? ⟨gv, 1, none⟩ = some (.string m0.v.s) ∧ w'.cell? ⟨gv, 3, none⟩ = some (.int .i64 m1.v.n) ∧ w'.cell? ⟨gv, 6, none⟩ = some (.int .i64 m2.v.n)) (first | exact FS.out _ (below_drew1 (below_two w _ _)) | exact FS.out _ (below_two w _ _)) (first | fail)
  all_goals (go_wp2_with fail)
  all_goals exact bodyPost_ret (res_ent (u := 5) rfl _ _ w.heap.size 1 m0.v.s ⟨#[]⟩ 0 m1.v.n m2.v.n 0 0 0 0 none 0 0 rfl (Bk.row hbk.out _)) rfl ⟨rfl, hbl.out⟩
set_option maxRecDepth 100000 in
set_option maxHeartbeats 4000000 in
theorem made_2 (gv c : Nat) (m0 : MVal) (w : World) (_hc : 1 ≤ c) (_hc' : c ≤ 9223372036854775807) (hg : gv < w.heap.size) (d0 : w.cell? ⟨gv, 1, none⟩ = some (.string m0.v.s)) :
    Calls Tryz.prog 130 #[.int .i64 2, .slice (some ⟨gv, 0, none⟩) 1 c] w fun e w' => e = .returned (.tuple #[.agg #[.int .i64 2, .string m0.v.s, .string ⟨#[]⟩, .int .i64 0, .int .i64 0, .int .i64 0, .int .i64 0, .int .i64 0, .int .i64 0, .int .i64 0, .slice none 0 0], .nilIface]) ∧ Below w.heap.size w w' := by
  have hst0 := stE_newAt (w.alloc (.cells zE 121)) (w.heap.size + 1) (by simp) 2 ⟨#[]⟩ ⟨#[]⟩ 0 0 0 0 0 0 0 none 0 0 zE rfl
  have hld := ldE_bk ((two_ent w 2 m0.v.s ⟨#[]⟩ 0 0 0 0 0 0 0 none 0 0).2)
  have hst := stE_row ((two_ent w 2 m0.v.s ⟨#[]⟩ 0 0 0 0 0 0 0 none 0 0).1) rfl 2 m0.v.s ⟨#[]⟩ 0 0 0 0 0 0 0 none 0 0
  have hbk := Lib.hid ((two_ent w 2 m0.v.s ⟨#[]⟩ 0 0 0 0 0 0 0 none 0 0).1)
  have hbl := Lib.hid (show Below w.heap.size w _ from below_row (below_two w (.cells zE 121) (.cells #[.int .i64 2, .string m0.v.s, .string ⟨#[]⟩, .int .i64 0, .int .i64 0, .int .i64 0, .int .i64 0, .int .i64 0, .int .i64 0, .int .i64 0, .slice none 0 0] 121)) (Nat.le_trans (Nat.le_refl _) (Below.size (below_two w (.cells zE 121) (.cells #[.int .i64 2, .string m0.v.s, .string ⟨#[]⟩, .int .i64 0, .int .i64 0, .int .i64 0, .int .i64 0, .int .i64 0, .int .i64 0, .int .i64 0, .slice none 0 0] 121)))) (Nat.le_refl _) #[.int .i64 2, .string m0.v.s, .string ⟨#[]⟩, .int .i64 0, .int .i64 0, .int .i64 0, .int .i64 0, .int .i64 0, .int .i64 0, .int .i64 0, .slice none 0 0])
  simp only [zE] at hst0 hld hst hbl
  have e0 := fun o1 o2 => ((below_two w o1 o2).cell (p := ⟨gv, 1, none⟩) hg).trans d0
  go_enter Tryz.func130, Tryz.ntmps130
  go_wp2_with fail
  all_goals exact bodyPost_ret (res_ent (u := 5) rfl _ _ w.heap.size 2 m0.v.s ⟨#[]⟩ 0 0 0 0 0 0 0 none 0 0 rfl (Bk.row hbk.out _)) rfl ⟨rfl, hbl.out⟩
set_option maxRecDepth 100000 in
set_option maxHeartbeats 4000000 in
theorem made_5 (gv c : Nat) (m0 m1 m2 : MVal) (w : World) (_hc : 3 ≤ c) (_hc' : c ≤ 9223372036854775807) (hg : gv < w.heap.size) (d0 : w.cell? ⟨gv, 1, none⟩ = some (.string m0.v.s)) (d1 : w.cell? ⟨gv, 3, none⟩ = some (.int .i64 m1.v.n)) (d2 : w.cell? ⟨gv, 6, none⟩ = some (.int .i64 m2.v.n)) :
    Calls Tryz.prog 130 #[.int .i64 5, .slice (some ⟨gv, 0, none⟩) 3 c] w fun e w' => e = .returned (.tuple #[.agg #[.int .i64 5, .string m0.v.s, .string ⟨#[]⟩, .int .i64 m1.v.n, .int .i64 0, .int .i64 0, .int .i64 m2.v.n, .int .i64 0, .int .i64 0, .int .i64 0, .slice none 0 0], .nilIface]) ∧ Below w.heap.size w w' := by
  have hst0 := stE_newAt (w.alloc (.cells zE 121)) (w.heap.size + 1) (by simp) 5 ⟨#[]⟩ ⟨#[]⟩ 0 0 0 0 0 0 0 none 0 0 zE rfl
  have hld := ldE_bk (Bk.drawn1 ((two_ent w 5 m0.v.s ⟨#[]⟩ m1.v.n 0 0 m2.v.n 0 0 0 none 0 0).2))
  have hst := stE_row (Bk.drawn1 ((two_ent w 5 m0.v.s ⟨#[]⟩ m1.v.n 0 0 m2.v.n 0 0 0 none 0 0).1)) rfl 5 m0.v.s ⟨#[]⟩ m1.v.n 0 0 m2.v.n 0 0 0 none 0 0
  have hbk := Lib.hid (Bk.drawn1 ((two_ent w 5 m0.v.s ⟨#[]⟩ m1.v.n 0 0 m2.v.n 0 0 0 none 0 0).1))
  have hbl := Lib.hid (show Below w.heap.size w _ from below_row (below_drew1 (below_two w (.cells zE 121) (.cells #[.int .i64 5, .string m0.v.s, .string ⟨#[]⟩, .int .i64 m1.v.n, .int .i64 0, .int .i64 0, .int .i64 m2.v.n, .int .i64 0, .int .i64 0, .int .i64 0, .slice none 0 0] 121))) (Nat.le_trans (Nat.le_refl _) (Below.size (below_drew1 (below_two w (.cells zE 121) (.cells #[.int .i64 5, .string m0.v.s, .string ⟨#[]⟩, .int .i64 m1.v.n, .int .i64 0, .int .i64 0, .int .i64 m2.v.n, .int .i64 0, .int .i64 0, .int .i64 0, .slice none 0 0] 121))))) (Nat.le_refl _) #[.int .i64 5, .string m0.v.s, .string ⟨#[]⟩, .int .i64 m1.v.n, .int .i64 0, .int .i64 0, .int .i64 m2.v.n, .int .i64 0, .int .i64 0, .int .i64 0, .slice none 0 0])
  simp only [zE] at hst0 hld hst hbl
  have FS : Hid (∀ w', Below w.heap.size w w' → (Below w.heap.size w w' ∧ w'.cell? ⟨gv, 1, none⟩ = some (.string m0.v.s) ∧ w'.cell? ⟨gv, 3, none⟩ = some (.int .i64 m1.v.n) ∧ w'.cell? ⟨gv, 6, none⟩ = some (.int .i64 m2.v.n))) := fun w' hb => ⟨hb, (hb.cell (p := ⟨gv, 1, none⟩) hg).trans d0, (hb.cell (p := ⟨gv, 3, none⟩) hg).trans d1, (hb.cell (p := ⟨gv, 6, none⟩) hg).trans d2⟩
  clear d0 d1 d2
  go_enter Tryz.func130, Tryz.ntmps130
  go_wp2_with fail
  go_region_held3 (fun w' => Below w.heap.size w w' ∧ w'.cell? ⟨gv, 1, none⟩ = some (.string m0.v.s) ∧ w'.cell? ⟨gv, 3, none⟩ = some (.int .i64 m1.v.n) ∧ w'.cell? ⟨gv, 6, none⟩ = some (.int .i64 m2.v.n)) (first | exact FS.out _ (below_drew1 (below_two w _ _)) | exact FS.out _ (below_two w _ _)) (first | fail)
  all_goals (go_wp2_with fail)
  all_goals exact bodyPost_ret (res_ent (u := 5) rfl _ _ w.heap.size 5 m0.v.s ⟨#[]⟩ m1.v.n 0 0 m2.v.n 0 0 0 none 0 0 rfl (Bk.row hbk.out _)) rfl ⟨rfl, hbl.out⟩
set_option maxRecDepth 100000 in
set_option maxHeartbeats 4000000 in
theorem made_4 (gv c : Nat) (m0 m1 m2 m3 : MVal) (w : World) (hc : 4 ≤ c) (hc' : c ≤ 9223372036854775807) (hg : gv < w.heap.size) (d0 : w.cell? ⟨gv, 1, none⟩ = some (.string m0.v.s)) (d1 : w.cell? ⟨gv, 4, none⟩ = some (.string m1.v.s)) (d2 : w.cell? ⟨gv, 6, none⟩ = some (.int .i64 m2.v.n)) (d3 : w.cell? ⟨gv, 9, none⟩ = some (.int .i64 m3.v.n)) :
    Calls Tryz.prog 130 #[.int .i64 4, .slice (some ⟨gv, 0, none⟩) 4 c] w fun e w' => e = .returned (.tuple #[.agg #[.int .i64 4, .string m1.v.s, .string m0.v.s, .int .i64 m2.v.n, .int .i64 0, .int .i64 0, .int .i64 m3.v.n, .int .i64 0, .int .i64 0, .int .i64 0, .slice none 0 0], .nilIface]) ∧ Below w.heap.size w w' := by
  have hst0 := stE_newAt (w.alloc (.cells zE 121)) (w.heap.size + 1) (by simp) 4 ⟨#[]⟩ ⟨#[]⟩ 0 0 0 0 0 0 0 none 0 0 zE rfl
  have hld := ldE_bk (Bk.drawn1 (Bk.drawn1 ((two_ent w 4 m1.v.s m0.v.s m2.v.n 0 0 m3.v.n 0 0 0 none 0 0).2)))
  have hst := stE_row (Bk.drawn1 (Bk.drawn1 ((two_ent w 4 m1.v.s m0.v.s m2.v.n 0 0 m3.v.n 0 0 0 none 0 0).1))) rfl 4 m1.v.s m0.v.s m2.v.n 0 0 m3.v.n 0 0 0 none 0 0
  have hbk := Lib.hid (Bk.drawn1 (Bk.drawn1 ((two_ent w 4 m1.v.s m0.v.s m2.v.n 0 0 m3.v.n 0 0 0 none 0 0).1)))
  have hbl := Lib.hid (show Below w.heap.size w _ from below_row (below_drew1 (below_drew1 (below_two w (.cells zE 121) (.cells #[.int .i64 4, .string m1.v.s, .string m0.v.s, .int .i64 m2.v.n, .int .i64 0, .int .i64 0, .int .i64 m3.v.n, .int .i64 0, .int .i64 0, .int .i64 0, .slice none 0 0] 121)))) (Nat.le_trans (Nat.le_refl _) (Below.size (below_drew1 (below_drew1 (below_two w (.cells zE 121) (.cells #[.int .i64 4, .string m1.v.s, .string m0.v.s, .int .i64 m2.v.n, .int .i64 0, .int .i64 0, .int .i64 m3.v.n, .int .i64 0, .int .i64 0, .int .i64 0, .slice none 0 0] 121)))))) (Nat.le_refl _) #[.int .i64 4, .string m1.v.s, .string m0.v.s, .int .i64 m2.v.n, .int .i64 0, .int .i64 0, .int .i64 m3.v.n, .int .i64 0, .int .i64 0, .int .i64 0, .slice none 0 0])
  simp only [zE] at hst0 hld hst hbl
  have FS : Hid (∀ w', Below w.heap.size w w' → (Below w.heap.size w w' ∧ w'.cell? ⟨gv, 1, none⟩ = some (.string m0.v.s) ∧ w'.cell? ⟨gv, 4, none⟩ = some (.string m1.v.s) ∧ w'.cell? ⟨gv, 6, none⟩ = some (.int .i64 m2.v.n) ∧ w'.cell? ⟨gv, 9, none⟩ = some (.int .i64 m3.v.n))) := fun w' hb => ⟨hb, (hb.cell (p := ⟨gv, 1, none⟩) hg).trans d0, (hb.cell (p := ⟨gv, 4, none⟩) hg).trans d1, (hb.cell (p := ⟨gv, 6, none⟩) hg).trans d2, (hb.cell (p := ⟨gv, 9, none⟩) hg).trans d3⟩
  clear d0 d1 d2 d3
  have hne : c ≠ 1 := by omega
  have h1c : (1 : Int) ≤ (c : Int) := by omega
  go_enter Tryz.func130, Tryz.ntmps130
  go_wp2_with fail
  go_region_held3 (fun w' => Below w.heap.size w w' ∧ w'.cell? ⟨gv, 1, none⟩ = some (.string m0.v.s) ∧ w'.cell? ⟨gv, 4, none⟩ = some (.string m1.v.s) ∧ w'.cell? ⟨gv, 6, none⟩ = some (.int .i64 m2.v.n) ∧ w'.cell? ⟨gv, 9, none⟩ = some (.int .i64 m3.v.n)) (first | exact FS.out _ (below_drew1 (below_two w _ _)) | exact FS.out _ (below_two w _ _)) (first | fail)
  all_goals (go_wp2_with fail)
  go_region_held3 (fun w' => Below w.heap.size w w' ∧ w'.cell? ⟨gv, 1, none⟩ = some (.string m0.v.s) ∧ w'.cell? ⟨gv, 4, none⟩ = some (.string m1.v.s) ∧ w'.cell? ⟨gv, 6, none⟩ = some (.int .i64 m2.v.n) ∧ w'.cell? ⟨gv, 9, none⟩ = some (.int .i64 m3.v.n)) (first | exact FS.out _ (below_drew1 (below_drew1 (below_two w _ _))) | exact FS.out _ (below_drew1 (below_two w _ _))) (first | fail)
  all_goals (go_wp2_with fail)
  all_goals exact bodyPost_ret (res_ent (u := 5) rfl _ _ w.heap.size 4 m1.v.s m0.v.s m2.v.n 0 0 m3.v.n 0 0 0 none 0 0 rfl (Bk.row hbk.out _)) rfl ⟨rfl, hbl.out⟩
end Go.Proofs.YtkdlofgfkfhofaaGreatDoor

/-
  entry: made, of an entry that produces.
-/
namespace Go.Proofs.YtkdlofgfkfhofaaGreatDoor
open Go.RowKit
attribute [local go_sem ↓] ldB_eq stB_eq ldE_eq stE_eq sliced_past
attribute [local go_sem] pastA_zero pastA_some

/-- a text turned to bytes -/
theorem conv_bytes (w : World) (s : ByteArray) (hs : s.size ≤ maxLen) : ∃ w' c, (convert 9 26 (.string s)).run Tryz.prog w = .ok (.slice (some ⟨w.heap.size, 0, none⟩) s.size c) w' ∧ RdB w' (some ⟨w.heap.size, 0, none⟩) s.size c s.data.toList ∧ Below w.heap.size w w' := by
  refine ⟨Lib.bytesWorld w 5 s, grownCap w s.size 0 5, Lib.run_convert_string_bytes w _ _ 5 s Tryz.underlying9 Tryz.underlying26 Tryz.underlying5, ?_, ?_⟩
  · refine ⟨by rw [bvs_len, Lib.size_eq], grownCap_ge _ _ _ _, by have := grownCap_le_maxLen w s.size 0 5 hs; unfold maxLen at this; exact this, fun k u hu => ⟨_, rfl, (show w.heap.size < _ by rw [Lib.bytesWorld_size]; omega), ?_⟩⟩
    have hk := (List.getElem?_eq_some_iff.1 hu).1
    rw [bvs_len, ← Lib.size_eq] at hk
    have hk2 : k < s.data.toList.length := by rw [← Lib.size_eq]; exact hk
    have e : s.data.toList.getD k 0 = s.data.toList[k] := by rw [List.getD_eq_getElem?_getD, List.getElem?_eq_getElem hk2]; rfl
    rw [Addr.add_none, Nat.zero_add, Lib.bytesWorld_cell w 5 s k hk, ← hu, e]
    unfold bvs
    rw [List.getElem?_map, List.getElem?_eq_getElem hk2]
    rfl
  · exact ⟨rfl, rfl, rfl, by rw [Lib.bytesWorld_size]; omega, fun i hi => Lib.bytesWorld_at_old w _ s i hi⟩
theorem stB_mid {w : World} {G : Nat} {k : Int} {t g : ByteArray} {part parts first off : Int} {x7 x8 x9 x10 : Value} (h : Bk w G 121 #[.int .i64 k, .string t, .string g, .int .i64 part, .int .i64 parts, .int .i64 first, .int .i64 off, x7, x8, x9, x10]) (b : Bat) (A : Option Addr) (n c : Nat) :
    ∃ w', (stB (.pointer (some ⟨G, 7, none⟩)) (.agg #[.int .i64 b.time, .int .i64 b.prod, .int .i64 b.seq, .slice A n c])).run Tryz.prog w = .ok () w' ∧ Bk w' G 121 #[.int .i64 k, .string t, .string g, .int .i64 part, .int .i64 parts, .int .i64 first, .int .i64 off, .int .i64 b.time, .int .i64 b.prod, .int .i64 b.seq, .slice A n c] ∧ w.grownBy w' (some G) := by
  refine ⟨w.setCells G 7 [.int .i64 b.time, .int .i64 b.prod, .int .i64 b.seq, .slice A n c], ?_, ?_, ?_⟩
  · unfold stB
    refine run_storeAt_mid w G 7 30 #[.int .i64 b.time, .int .i64 b.prod, .int .i64 b.seq, .slice A n c] (fun j hj => ⟨?_, h.thaw _⟩) size_b (all_oneCell_toArray (one_all rfl))
    rw [h.cell]
    have hj : j < 4 := hj
    match j, hj with
    | 0, _ => rfl
    | 1, _ => rfl
    | 2, _ => rfl
    | 3, _ => rfl
  · exact (((h.put 7 (.int .i64 b.time)).put 8 (.int .i64 b.prod)).put 9 (.int .i64 b.seq)).put 10 (.slice A n c)
  · exact (((grown_set w ⟨G, 7, none⟩ _).trans (grown_set _ ⟨G, 8, none⟩ _)).trans (grown_set _ ⟨G, 9, none⟩ _)).trans (grown_set _ ⟨G, 10, none⟩ _)
set_option maxRecDepth 100000 in
set_option maxHeartbeats 4000000 in
theorem made_3 (gv c : Nat) (m0 m1 m2 : MVal) (w : World) (hg : gv < w.heap.size) (hs2 : m2.v.s.size ≤ maxLen) (d0 : w.cell? ⟨gv, 1, none⟩ = some (.string m0.v.s)) (d1 : w.cell? ⟨gv, 3, none⟩ = some (.int .i64 m1.v.n)) (d2 : w.cell? ⟨gv, 7, none⟩ = some (.string m2.v.s)) :
    Calls Tryz.prog 130 #[.int .i64 3, .slice (some ⟨gv, 0, none⟩) 3 c] w fun e w' => ∃ b A' n' c' v, e = .returned (.tuple #[.agg #[.int .i64 3, .string m0.v.s, .string ⟨#[]⟩, .int .i64 m1.v.n, .int .i64 0, .int .i64 0, .int .i64 0, .int .i64 b.time, .int .i64 b.prod, .int .i64 b.seq, .slice A' n' c'], v]) ∧ BatR m2.v.s.data.toList w.heap.size w' b A' n' c' v ∧ Below w.heap.size w w' := by
  have hst0 := stE_newAt (w.alloc (.cells zE 121)) (w.heap.size + 1) (by simp) 3 ⟨#[]⟩ ⟨#[]⟩ 0 0 0 0 0 0 0 none 0 0 zE rfl
  have hbk := two_ent w 3 m0.v.s ⟨#[]⟩ m1.v.n 0 0 0 0 0 0 none 0 0
  have hbl := below_two w (.cells zE 121) (.cells #[.int .i64 3, .string m0.v.s, .string ⟨#[]⟩, .int .i64 m1.v.n, .int .i64 0, .int .i64 0, .int .i64 0, .int .i64 0, .int .i64 0, .int .i64 0, .slice none 0 0] 121)
  have HBK := Lib.hid hbk
  have HBL := Lib.hid hbl
  clear hbk hbl
  simp only [zE] at hst0 HBK HBL
  have FS : Hid (∀ w', Below w.heap.size w w' → (Below w.heap.size w w' ∧ w'.cell? ⟨gv, 1, none⟩ = some (.string m0.v.s) ∧ w'.cell? ⟨gv, 3, none⟩ = some (.int .i64 m1.v.n) ∧ w'.cell? ⟨gv, 7, none⟩ = some (.string m2.v.s))) := fun w' hb => ⟨hb, (hb.cell (p := ⟨gv, 1, none⟩) hg).trans d0, (hb.cell (p := ⟨gv, 3, none⟩) hg).trans d1, (hb.cell (p := ⟨gv, 7, none⟩) hg).trans d2⟩
  clear d0 d1 d2
  go_enter Tryz.func130, Tryz.ntmps130
  go_wp2_with fail
  go_region_held3 (fun w' => Below w.heap.size w w' ∧ w'.cell? ⟨gv, 1, none⟩ = some (.string m0.v.s) ∧ w'.cell? ⟨gv, 3, none⟩ = some (.int .i64 m1.v.n) ∧ w'.cell? ⟨gv, 7, none⟩ = some (.string m2.v.s)) (first | exact FS.out _ (below_drew1 (below_two w _ _))) (first | fail)
  all_goals
    have hk1 : Bk ((w.alloc (.cells #[.int .i64 0, .string ⟨#[]⟩, .string ⟨#[]⟩, .int .i64 0, .int .i64 0, .int .i64 0, .int .i64 0, .int .i64 0, .int .i64 0, .int .i64 0, .slice none 0 0] 121)).alloc (.cells #[.int .i64 3, .string m0.v.s, .string ⟨#[]⟩, .int .i64 m1.v.n, .int .i64 0, .int .i64 0, .int .i64 0, .int .i64 0, .int .i64 0, .int .i64 0, .slice none 0 0] 121)).drew w.heap.size 121 #[.int .i64 0, .string ⟨#[]⟩, .string ⟨#[]⟩, .int .i64 0, .int .i64 0, .int .i64 0, .int .i64 0, .int .i64 0, .int .i64 0, .int .i64 0, .slice none 0 0] := Bk.drawn1 HBK.out.1
    have hk2 : Bk ((w.alloc (.cells #[.int .i64 0, .string ⟨#[]⟩, .string ⟨#[]⟩, .int .i64 0, .int .i64 0, .int .i64 0, .int .i64 0, .int .i64 0, .int .i64 0, .int .i64 0, .slice none 0 0] 121)).alloc (.cells #[.int .i64 3, .string m0.v.s, .string ⟨#[]⟩, .int .i64 m1.v.n, .int .i64 0, .int .i64 0, .int .i64 0, .int .i64 0, .int .i64 0, .int .i64 0, .slice none 0 0] 121)).drew (w.heap.size + 1) 121 #[.int .i64 3, .string m0.v.s, .string ⟨#[]⟩, .int .i64 m1.v.n, .int .i64 0, .int .i64 0, .int .i64 0, .int .i64 0, .int .i64 0, .int .i64 0, .slice none 0 0] := Bk.drawn1 HBK.out.2
    have hB1 := below_drew1 HBL.out
    clear HBK HBL hst0
    generalize ((w.alloc (.cells #[.int .i64 0, .string ⟨#[]⟩, .string ⟨#[]⟩, .int .i64 0, .int .i64 0, .int .i64 0, .int .i64 0, .int .i64 0, .int .i64 0, .int .i64 0, .slice none 0 0] 121)).alloc (.cells #[.int .i64 3, .string m0.v.s, .string ⟨#[]⟩, .int .i64 m1.v.n, .int .i64 0, .int .i64 0, .int .i64 0, .int .i64 0, .int .i64 0, .int .i64 0, .slice none 0 0] 121)).drew = w1 at hk1 hk2 hB1 ⊢
    have d2 := (FS.out _ hB1).2.2.2
    obtain ⟨w2, cp, hcv, hrd, hb2⟩ := conv_bytes w1 m2.v.s hs2
    have HG := Lib.hid (bget_any _ _ _ _ w2 hrd)
    have HK1 := Lib.hid (hk1.ext hb2)
    have HK2 := Lib.hid (hk2.ext hb2)
    have HB2 := Lib.hid (hB1.trans (below_le hB1.size hb2))
    clear hrd hb2 hB1 hk1 hk2 FS
    go_wp2_with fail
    with_reducible refine HG.out.mono ?_
    rintro e w3 ⟨b, A3, n3, c3, v3, rfl, hbr, hb3⟩
    obtain ⟨w4, hst4, hk4, hg4⟩ := stB_mid (HK2.out.ext hb3) b A3 n3 c3
    have hk1' : Bk w4 w.heap.size 121 #[.int .i64 0, .string ⟨#[]⟩, .string ⟨#[]⟩, .int .i64 0, .int .i64 0, .int .i64 0, .int .i64 0, .int .i64 0, .int .i64 0, .int .i64 0, .slice none 0 0] := (HK1.out.ext hb3).keptG hg4 (by omega)
    have hld := ldE_bk hk4
    have hst := stE_row hk1' rfl 3 m0.v.s ⟨#[]⟩ m1.v.n 0 0 0 b.time b.prod b.seq A3 n3 c3
    have HK4 := Lib.hid hk1'
    have HBR := Lib.hid hbr
    have HB3 := Lib.hid (HB2.out.trans (below_le HB2.out.size hb3))
    have HG4 := Lib.hid hg4
    have hszz := Lib.hid HK2.out.lt
    clear hk4 hk1' hbr hb3 hg4 d2 hcv
    go_wp2_with fail
    refine bodyPost_ret (res_ent (u := 5) rfl _ _ w.heap.size 3 m0.v.s ⟨#[]⟩ m1.v.n 0 0 0 b.time b.prod b.seq A3 n3 c3 rfl (Bk.row HK4.out _)) rfl ⟨b, A3, n3, c3, v3, rfl, ?_, ?_⟩
    · obtain ⟨r1, r2, r3⟩ := HBR.out
      refine ⟨RdT.kept (RdT.kept r1 HG4.out ?_) (grown_row _ _ _) ?_, fun ad e => ?_, r3⟩
      · intro ad e e2
        have := r2 ad e
        have h2 := Option.some.inj e2
        have := hszz.out
        omega
      · intro ad e e2
        have := r2 ad e
        have h2 := Option.some.inj e2
        have := hszz.out
        omega
      · have := r2 ad e
        have := hszz.out
        omega
    · exact below_row (below_grown HB3.out HB3.out.size HG4.out (by omega)) (Nat.le_trans HB3.out.size HG4.out.size) (Nat.le_refl _) _
end Go.Proofs.YtkdlofgfkfhofaaGreatDoor

/-
  entry: made, whole; same, restOf; slices.Equal of texts.
-/
namespace Go.Proofs.YtkdlofgfkfhofaaGreatDoor
open Go.RowKit

theorem RdV.cellAt {w : World} {A : Option Addr} {n c : Nat} {ms : List MVal} (h : RdV w A n c ms) (hn : 0 < n) : ∃ gv, A = some ⟨gv, 0, none⟩ ∧ gv < w.heap.size ∧ ∀ i m j u, ms[i]? = some m → m.cells[j]? = some u → w.cell? ⟨gv, i * 3 + j, none⟩ = some u := by
  have hlen := h.rows.len
  rw [List.length_map] at hlen
  obtain ⟨m, hm⟩ : ∃ m, ms[0]? = some m := ⟨ms[0]'(by omega), List.getElem?_eq_getElem _⟩
  obtain ⟨gv, rfl, hg, _⟩ := h.rows.cell 0 m.cells (by rw [List.getElem?_map, hm]; rfl)
  refine ⟨gv, rfl, hg, fun i m j u hm hu => ?_⟩
  obtain ⟨g', e, _, hc⟩ := h.rows.cell i m.cells (by rw [List.getElem?_map, hm]; rfl)
  injection e with e
  injection e with e
  subst e
  exact hc j u hu
theorem made_any (k : Int) (hk : 1 ≤ k ∧ k ≤ 5) (A : Option Addr) (n c : Nat) (ms : List MVal) (w : World) (h : RdV w A n c ms) (hok : okAll (fldsE k) (vsOf ms) = true) :
    Calls Tryz.prog 130 #[.int .i64 k, .slice A n c] w fun e w' => ∃ x A' n' c' v, e = .returned (.tuple #[.agg #[.int .i64 x.kind, .string x.topic, .string x.group, .int .i64 x.part, .int .i64 x.parts, .int .i64 x.first, .int .i64 x.off, .int .i64 x.bat.time, .int .i64 x.bat.prod, .int .i64 x.bat.seq, .slice A' n' c'], v]) ∧ MadeR k (vsOf ms) w.heap.size w' x A' n' c' v ∧ Below w.heap.size w w' := by
  have hlen := h.rows.len
  rw [List.length_map] at hlen
  have hl2 : ms.length = (fldsE k).length := by
    have h1 := hok
    unfold okAll at h1
    rw [Bool.and_eq_true, decide_eq_true_iff] at h1
    have := h1.1
    unfold vsOf at this
    rw [List.length_map] at this
    exact this
  have hcap := h.rows.cap
  have hbig := h.rows.big
  rcases kind_cases hk with rfl | rfl | rfl | rfl | rfl
  · have hl3 : ms.length = 3 := hl2
    obtain rfl : n = 3 := by omega
    obtain ⟨gv, rfl, hg, hc⟩ := h.cellAt (by omega)
    match ms, hl3 with
    | [m0, m1, m2], _ =>
      refine (made_1 gv c m0 m1 m2 w hcap hbig hg (hc 0 m0 1 _ rfl rfl) (hc 1 m1 0 _ rfl rfl) (hc 2 m2 0 _ rfl rfl)).mono ?_
      rintro e w' ⟨rfl, hb⟩
      exact ⟨⟨1, m0.v.s, nul, 0, m1.v.n, m2.v.n, 0, noB⟩, none, 0, 0, .nilIface, rfl, ⟨rfl, RdT.nil _, (fun ad h => by cases h), .inl ⟨rfl, rfl⟩⟩, hb⟩
  · have hl3 : ms.length = 1 := hl2
    obtain rfl : n = 1 := by omega
    obtain ⟨gv, rfl, hg, hc⟩ := h.cellAt (by omega)
    match ms, hl3 with
    | [m0], _ =>
      refine (made_2 gv c m0 w hcap hbig hg (hc 0 m0 1 _ rfl rfl)).mono ?_
      rintro e w' ⟨rfl, hb⟩
      exact ⟨⟨2, m0.v.s, nul, 0, 0, 0, 0, noB⟩, none, 0, 0, .nilIface, rfl, ⟨rfl, RdT.nil _, (fun ad h => by cases h), .inl ⟨rfl, rfl⟩⟩, hb⟩
  · have hl3 : ms.length = 3 := hl2
    obtain rfl : n = 3 := by omega
    obtain ⟨gv, rfl, hg, hc⟩ := h.cellAt (by omega)
    match ms, hl3 with
    | [m0, m1, m2], _ =>
      have hs2 : m2.v.s.size ≤ maxLen := by
        obtain ⟨x0, r0, e0, f0, h1⟩ := okAll_cons (f := nameF) (fs := [partF, sF 1 600]) hok
        injection e0 with _ e0
        subst e0
        obtain ⟨x1, r1, e1, f1, h1⟩ := okAll_cons h1
        injection e1 with _ e1
        subst e1
        obtain ⟨x2, r2, e2, f2, h1⟩ := okAll_cons h1
        injection e2 with e2 _
        obtain ⟨s, e3, _, a3⟩ := fits_text rfl f2
        have : m2.v.s = s := by rw [e2, e3]; rfl
        have a3 : (s.size : Int) ≤ 600 := a3
        rw [this]
        unfold maxLen
        omega
      refine (made_3 gv c m0 m1 m2 w hg hs2 (hc 0 m0 1 _ rfl rfl) (hc 1 m1 0 _ rfl rfl) (hc 2 m2 1 _ rfl rfl)).mono ?_
      rintro e w' ⟨b, A', n', c', v, rfl, ⟨r1, r2, r3⟩, hb⟩
      refine ⟨⟨3, m0.v.s, nul, m1.v.n, 0, 0, 0, b⟩, A', n', c', v, rfl, ⟨?_, r1, r2, ?_⟩, hb⟩
      · show _ = (⟨3, m0.v.s, nul, m1.v.n, 0, 0, 0, batOf (getB m2.v.s.data.toList)⟩ : Ent)
        rcases r3 with ⟨_, h3⟩ | ⟨rfl, d, e, _, h3⟩
        · rw [h3]; rfl
        · rw [h3]; rfl
      · show _ ∨ _
        rcases r3 with ⟨h2, h3⟩ | ⟨_, d, e, h2, h3⟩
        · refine .inl ⟨h2, ?_⟩
          show (match getB m2.v.s.data.toList with | .ok _ => none | .error c => some c) = none
          rw [h3]
        · refine .inr ⟨d, e, h2, ?_⟩
          show (match getB m2.v.s.data.toList with | .ok _ => none | .error c => some c) = some e
          rw [h3]
  · have hl3 : ms.length = 4 := hl2
    obtain rfl : n = 4 := by omega
    obtain ⟨gv, rfl, hg, hc⟩ := h.cellAt (by omega)
    match ms, hl3 with
    | [m0, m1, m2, m3], _ =>
      refine (made_4 gv c m0 m1 m2 m3 w hcap hbig hg (hc 0 m0 1 _ rfl rfl) (hc 1 m1 1 _ rfl rfl) (hc 2 m2 0 _ rfl rfl) (hc 3 m3 0 _ rfl rfl)).mono ?_
      rintro e w' ⟨rfl, hb⟩
      exact ⟨⟨4, m1.v.s, m0.v.s, m2.v.n, 0, 0, m3.v.n, noB⟩, none, 0, 0, .nilIface, rfl, ⟨rfl, RdT.nil _, (fun ad h => by cases h), .inl ⟨rfl, rfl⟩⟩, hb⟩
  · have hl3 : ms.length = 3 := hl2
    obtain rfl : n = 3 := by omega
    obtain ⟨gv, rfl, hg, hc⟩ := h.cellAt (by omega)
    match ms, hl3 with
    | [m0, m1, m2], _ =>
      refine (made_5 gv c m0 m1 m2 w hcap hbig hg (hc 0 m0 1 _ rfl rfl) (hc 1 m1 0 _ rfl rfl) (hc 2 m2 0 _ rfl rfl)).mono ?_
      rintro e w' ⟨rfl, hb⟩
      exact ⟨⟨5, m0.v.s, nul, m1.v.n, 0, 0, m2.v.n, noB⟩, none, 0, 0, .nilIface, rfl, ⟨rfl, RdT.nil _, (fun ad h => by cases h), .inl ⟨rfl, rfl⟩⟩, hb⟩

theorem str_eq (t u : ByteArray) : (t.toList == u.toList) = decide (t = u) := by
  rw [Lib.toList_data, Lib.toList_data]
  by_cases h : t = u
  · subst h; simp
  · have : t.data.toList ≠ u.data.toList := fun e => h (by rw [← Lib.mk_data t, ← Lib.mk_data u, e])
    simp [h]
    exact fun e => this (by rw [e])
theorem str_ne (t u : ByteArray) : (t.toList != u.toList) = !decide (t = u) := by
  show (!(t.toList == u.toList)) = _
  rw [str_eq]
set_option maxRecDepth 100000 in
set_option maxHeartbeats 1000000 in
theorem equalT_any (A : Option Addr) (n c : Nat) (l : List ByteArray) (A' : Option Addr) (n' c' : Nat) (l' : List ByteArray) (w : World) (h : RdT w A n c l) (h' : RdT w A' n' c' l') (r : Bool) (hr : decide (l = l') = r) :
    Calls Tryz.prog 188 #[.slice A n c, .slice A' n' c'] w fun e w' => e = .returned (.bool r) ∧ Below w.heap.size w w' := by
  subst hr
  have hl := h.len
  have hl' := h'.len
  by_cases hn : n = n'
  · subst hn
    have hcap := Rd.cap h
    have hbig := Rd.big h
    have hcap' := Rd.cap h'
    have hbig' := Rd.big h'
    have H := Lib.hid h
    have H' := Lib.hid h'
    have HL := Lib.hid hl
    have HL' := Lib.hid hl'
    have hb0 := Lib.hid (Below.refl w.heap.size w)
    clear h h' hl hl'
    go_enter Tryz.func188, Tryz.ntmps188
    go_wp2
    go_loopw [13] (fun i wr => ∃ k q : Nat, k ≤ n ∧ i = .int .i64 k ∧ l.take k = l'.take k ∧ wr = w.drewN q) (fun i _ => n - (intOf i).toNat)
    case atStart => exact ⟨0, 0, Nat.zero_le _, rfl, rfl, rfl⟩
    case round =>
      obtain ⟨k, q, hk, rfl, hpre, rfl⟩ := hrel
      by_cases hlt : k < n
      · have hi : (k : Int) < n := by omega
        obtain ⟨s, hs⟩ : ∃ s, l[k]? = some s := ⟨l[k]'(by have := HL.out; omega), List.getElem?_eq_getElem _⟩
        obtain ⟨s', hs'⟩ : ∃ s', l'[k]? = some s' := ⟨l'[k]'(by have := HL'.out; omega), List.getElem?_eq_getElem _⟩
        obtain ⟨ad, rfl, _, hc⟩ := Rd.cell H.out k (.string s) (by rw [List.getElem?_map, hs]; rfl)
        obtain ⟨ad', rfl, _, hc'⟩ := Rd.cell H'.out k (.string s') (by rw [List.getElem?_map, hs']; rfl)
        have HS := Lib.hid hs
        have HS' := Lib.hid hs'
        have HP := Lib.hid hpre
        clear hs hs' hpre
        by_cases he : s = s'
        · subst he
          have hne : (s.toList != s.toList) = false := by rw [str_ne]; simp
          go_wp2
          go_quiet (fail)
          rename Nat => q2
          go_wp2
          go_roundw
          case rel => exact ⟨k + 1, q + q2, by omega, by go_num, by rw [List.take_add_one, List.take_add_one, HS.out, HS'.out, HP.out], rfl⟩
          case measure => simp [intOf]; omega
        · have hne : (s.toList == s'.toList) = false := by rw [str_eq]; simp [he]
          have hd : decide (l = l') = false := decide_eq_false (fun e => he (by have h1 := HS.out; rw [e, HS'.out] at h1; exact (Option.some.inj h1).symm))
          have HD := Lib.hid hd
          clear hd
          go_wp2
          go_quiet (fail)
          go_wp2
          go_ret
          exact ⟨ret_bool HD.out.symm, below_drawn (below_drawn hb0.out _) _⟩
      · obtain rfl : k = n := by omega
        have hd : decide (l = l') = true := decide_eq_true (by
          have := hpre
          rw [List.take_of_length_le (by have := HL.out; omega), List.take_of_length_le (by have := HL'.out; omega)] at this
          exact this)
        have HD := Lib.hid hd
        clear hd
        go_wp2
        go_ret
        exact ⟨ret_bool HD.out.symm, below_drawn hb0.out _⟩
  · have hd : decide (l = l') = false := decide_eq_false (fun e => hn (by rw [← hl, ← hl', e]))
    rw [hd]
    have hne : ((n : Int) != (n' : Int)) = true := by rw [bne_iff_ne]; omega
    clear hd h h'
    have hb0 := Lib.hid (Below.refl w.heap.size w)
    go_enter Tryz.func188, Tryz.ntmps188
    go_wp2
    go_ret
    exact ⟨rfl, hb0.out⟩
end Go.Proofs.YtkdlofgfkfhofaaGreatDoor
