import Derived.Test.YtkdlofgfkfhofaaGreatDoorP40
import Derived.Test.YtkdlofgfkfhofaaGreatDoorP42
/-
  server: steps that are refused.
-/
namespace Go.Proofs.YtkdlofgfkfhofaaGreatDoor
open Go.RowKit Go.Maps

set_option maxRecDepth 100000 in
set_option maxHeartbeats 1000000 in
theorem rackDie_no {o : Nat → Option Nat} {r : Nat} {M : RackM} {w : World} (h : RackAt w o r M) (i : Int) (hi : ¬ (0 ≤ i ∧ i < M.n)) :
    Calls Tryz.prog 35 #[.pointer (some ⟨r, 0, none⟩), .int .i64 i] w fun e w' => e = .returned (.bool false) ∧ w' = w := by
  have HH := Lib.hid (rackHas_any h i _ rfl)
  rw [decide_eq_false hi] at HH
  clear h hi
  go_enter Tryz.func35, Tryz.ntmps35
  go_wp2_with (first | (go_at_call 73; go_loud (with_reducible refine HH.out.mono ?_); rintro er w4 ⟨rfl, rfl⟩) | fail)
  go_ret
  exact ⟨rfl, rfl⟩
set_option maxRecDepth 100000 in
set_option maxHeartbeats 1000000 in
theorem rackReplace_no {o : Nat → Option Nat} {r : Nat} {M : RackM} {w : World} (h : RackAt w o r M) (i : Int) (hi : ¬ (0 ≤ i ∧ i < M.n)) :
    Calls Tryz.prog 36 #[.pointer (some ⟨r, 0, none⟩), .int .i64 i] w fun e w' => e = .returned (.bool false) ∧ w' = w := by
  have HH := Lib.hid (rackHas_any h i _ rfl)
  rw [decide_eq_false hi] at HH
  clear h hi
  go_enter Tryz.func36, Tryz.ntmps36
  go_wp2_with (first | (go_at_call 73; go_loud (with_reducible refine HH.out.mono ?_); rintro er w4 ⟨rfl, rfl⟩) | fail)
  go_ret
  exact ⟨rfl, rfl⟩
set_option maxRecDepth 100000 in
set_option maxHeartbeats 1000000 in
theorem rackRot_no {o : Nat → Option Nat} {r : Nat} {M : RackM} {w : World} (h : RackAt w o r M) (i s a x : Int) (hi : ¬ (0 ≤ i ∧ i < M.n)) :
    Calls Tryz.prog 37 #[.pointer (some ⟨r, 0, none⟩), .int .i64 i, .int .i64 s, .int .i64 a, .int .u32 x] w fun e w' => e = .returned (.bool false) ∧ w' = w := by
  have HH := Lib.hid (rackHas_any h i _ rfl)
  rw [decide_eq_false hi] at HH
  clear h hi
  go_enter Tryz.func37, Tryz.ntmps37
  go_wp2_with (first | (go_at_call 73; go_loud (with_reducible refine HH.out.mono ?_); rintro er w4 ⟨rfl, rfl⟩) | fail)
  go_ret
  exact ⟨rfl, rfl⟩
set_option maxRecDepth 100000 in
set_option maxHeartbeats 1000000 in
theorem dskRot_no {P : Nat → Prop} {d : Nat} {M : DskM} {w : World} (h : DskAt w P d M) (i x : Int) (hk : M.bad i (x == 0) ≠ 0) :
    Calls Tryz.prog 76 #[.pointer (some ⟨d, 0, none⟩), .int .i64 i, .int .i64 0, .int .u32 x] w fun e w' => e = .returned (.bool false) ∧ w' = w := by
  have HR := Lib.hid (dskRefused_any h (ByteArray.mk #[100, 105, 115, 107, 46, 82, 111, 116]) i (x == 0))
  generalize M.bad i (x == 0) = k at HR hk
  have HK := Lib.hid hk
  clear h hk
  go_enter Tryz.func76, Tryz.ntmps76
  go_wp2_with (first | (go_at_call 126; go_loud (with_reducible refine HR.out.mono ?_); rintro er w4 ⟨v4, rfl, he4, rfl⟩; obtain ⟨ty, y, rfl⟩ := he4.iface HK.out; clear he4) | fail)
  go_ret
  exact ⟨rfl, rfl⟩
set_option maxRecDepth 100000 in
set_option maxHeartbeats 1000000 in
theorem rackRot_in {o : Nat → Option Nat} {r : Nat} {M : RackM} {w : World} (h : RackAt w o r M) (i : Nat) (s x : Int) (hi : i < M.n) (hk : (M.d i).bad s (x == 0) ≠ 0) :
    Calls Tryz.prog 37 #[.pointer (some ⟨r, 0, none⟩), .int .i64 i, .int .i64 s, .int .i64 0, .int .u32 x] w fun e w' => e = .returned (.bool false) ∧ w' = w := by
  have HH := Lib.hid (rackHas_any h i _ rfl)
  rw [decide_eq_true (show (0 : Int) ≤ (i : Int) ∧ (i : Int) < M.n by omega)] at HH
  obtain ⟨lb, cap, C, d, hp⟩ := h
  have hok := hp.ok.few
  have c0 : w.cell? ⟨r, 0, none⟩ = some (.slice (some ⟨lb, 0, none⟩) M.n cap) := hp.bk.cell 0
  have c1 : w.cell? ⟨lb, i, none⟩ = some (.pointer (some ⟨d i, 0, none⟩)) := (hp.row.cell i).trans (hp.at_ i hi).1
  have HD := Lib.hid (dskRot_no (hp.at_ i hi).2 s x hk)
  have h1 : (i : Int) < M.n := by omega
  clear hp hok hk hi
  go_enter Tryz.func37, Tryz.ntmps37
  go_wp2_with (first | (go_at_call 73; go_loud (with_reducible refine HH.out.mono ?_); rintro er w4 ⟨rfl, rfl⟩) | (go_at_call 76; go_loud (with_reducible refine HD.out.mono ?_); rintro er w5 ⟨rfl, rfl⟩) | fail)
  go_ret
  exact ⟨rfl, rfl⟩
end Go.Proofs.YtkdlofgfkfhofaaGreatDoor

/-
  server: Do of steps that are refused.
-/
namespace Go.Proofs.YtkdlofgfkfhofaaGreatDoor
open Go.RowKit Go.Maps

set_option maxRecDepth 100000 in
set_option maxHeartbeats 2000000 in
theorem svNd_conn {w : World} {sv b r t g s tb gr : Nat} {me ws : Value} {last : Int} {cf : CfgM} {cs : Nat → CV} (hS : SvAt w sv b r t g s tb gr me ws last cf cs) {c : Int} (hc : ¬ (0 ≤ c ∧ c < 4)) (Ab : Option Addr) (nb cb : Nat) :
    Calls Tryz.prog 10 #[.pointer (some ⟨sv, 0, none⟩), .agg (stepC 1 c 0 0 0 0 Ab nb cb)] w fun e w' => e = .returned (.bool false) ∧ Below w.heap.size w w' := by
  have hb1 := below_new w (.cells (stepC 1 c 0 0 0 0 Ab nb cb) 37)
  have hS1 := hS.ext hb1
  have c0 : (w.alloc (.cells (stepC 1 c 0 0 0 0 Ab nb cb) 37)).cell? ⟨sv, 0, none⟩ = some (.pointer (some ⟨b, 0, none⟩)) := hS1.bk.cell 0
  have HRk := Lib.hid (bRack_any hS1.br.bk)
  have HKn := Lib.hid (known_any c (w.alloc (.cells (stepC 1 c 0 0 0 0 Ab nb cb) 37)))
  rw [decide_eq_false hc] at HKn
  have HB := Lib.hid hb1
  clear hb1 hS1 hS
  go_enter Tryz.func10, Tryz.ntmps10
  go_wp2_with (first | (go_at_call 26; go_loud (with_reducible refine HRk.out.mono ?_); rintro er w1 ⟨rfl, rfl⟩) | (go_at_call 27; go_loud (with_reducible refine HKn.out.mono ?_); rintro er w2 ⟨rfl, rfl⟩) | fail)
  go_ret
  exact ⟨rfl, HB.out⟩
set_option maxRecDepth 100000 in
set_option maxHeartbeats 2000000 in
theorem svNd_die {w : World} {sv b r t g s tb gr : Nat} {me ws : Value} {last : Int} {cf : CfgM} {cs : Nat → CV} (hS : SvAt w sv b r t g s tb gr me ws last cf cs) {o : Nat → Option Nat} {M : RackM} (hR : RackAt w o r M) {n : Int} (hn : ¬ (0 ≤ n ∧ n < M.n)) (Ab : Option Addr) (nb cb : Nat) :
    Calls Tryz.prog 10 #[.pointer (some ⟨sv, 0, none⟩), .agg (stepC 7 0 n 0 0 0 Ab nb cb)] w fun e w' => e = .returned (.bool false) ∧ Below w.heap.size w w' := by
  have hb1 := below_new w (.cells (stepC 7 0 n 0 0 0 Ab nb cb) 37)
  have hS1 := hS.ext hb1
  have c0 : (w.alloc (.cells (stepC 7 0 n 0 0 0 Ab nb cb) 37)).cell? ⟨sv, 0, none⟩ = some (.pointer (some ⟨b, 0, none⟩)) := hS1.bk.cell 0
  have HRk := Lib.hid (bRack_any hS1.br.bk)
  have HD := Lib.hid (rackDie_no (hR.ext hb1) n hn)
  clear hR
  have HB := Lib.hid hb1
  clear hb1 hS1 hS
  go_enter Tryz.func10, Tryz.ntmps10
  go_wp2_with (first | (go_at_call 26; go_loud (with_reducible refine HRk.out.mono ?_); rintro er w1 ⟨rfl, rfl⟩) | (go_at_call 35; go_loud (with_reducible refine HD.out.mono ?_); rintro er w2 ⟨rfl, rfl⟩) | fail)
  go_ret
  exact ⟨rfl, HB.out⟩
set_option maxRecDepth 100000 in
set_option maxHeartbeats 2000000 in
theorem svNd_replace {w : World} {sv b r t g s tb gr : Nat} {me ws : Value} {last : Int} {cf : CfgM} {cs : Nat → CV} (hS : SvAt w sv b r t g s tb gr me ws last cf cs) {o : Nat → Option Nat} {M : RackM} (hR : RackAt w o r M) {n : Int} (hn : ¬ (0 ≤ n ∧ n < M.n)) (Ab : Option Addr) (nb cb : Nat) :
    Calls Tryz.prog 10 #[.pointer (some ⟨sv, 0, none⟩), .agg (stepC 8 0 n 0 0 0 Ab nb cb)] w fun e w' => e = .returned (.bool false) ∧ Below w.heap.size w w' := by
  have hb1 := below_new w (.cells (stepC 8 0 n 0 0 0 Ab nb cb) 37)
  have hS1 := hS.ext hb1
  have c0 : (w.alloc (.cells (stepC 8 0 n 0 0 0 Ab nb cb) 37)).cell? ⟨sv, 0, none⟩ = some (.pointer (some ⟨b, 0, none⟩)) := hS1.bk.cell 0
  have HRk := Lib.hid (bRack_any hS1.br.bk)
  have HD := Lib.hid (rackReplace_no (hR.ext hb1) n hn)
  clear hR
  have HB := Lib.hid hb1
  clear hb1 hS1 hS
  go_enter Tryz.func10, Tryz.ntmps10
  go_wp2_with (first | (go_at_call 26; go_loud (with_reducible refine HRk.out.mono ?_); rintro er w1 ⟨rfl, rfl⟩) | (go_at_call 36; go_loud (with_reducible refine HD.out.mono ?_); rintro er w2 ⟨rfl, rfl⟩) | fail)
  go_ret
  exact ⟨rfl, HB.out⟩
set_option maxRecDepth 100000 in
set_option maxHeartbeats 2000000 in
theorem svNd_rot {w : World} {sv b r t g s tb gr : Nat} {me ws : Value} {last : Int} {cf : CfgM} {cs : Nat → CV} (hS : SvAt w sv b r t g s tb gr me ws last cf cs) {o : Nat → Option Nat} {M : RackM} (hR : RackAt w o r M) {n q a x : Int} (hn : ¬ (0 ≤ n ∧ n < M.n)) (Ab : Option Addr) (nb cb : Nat) :
    Calls Tryz.prog 10 #[.pointer (some ⟨sv, 0, none⟩), .agg (stepC 9 0 n q a x Ab nb cb)] w fun e w' => e = .returned (.bool false) ∧ Below w.heap.size w w' := by
  have hb1 := below_new w (.cells (stepC 9 0 n q a x Ab nb cb) 37)
  have hS1 := hS.ext hb1
  have c0 : (w.alloc (.cells (stepC 9 0 n q a x Ab nb cb) 37)).cell? ⟨sv, 0, none⟩ = some (.pointer (some ⟨b, 0, none⟩)) := hS1.bk.cell 0
  have HRk := Lib.hid (bRack_any hS1.br.bk)
  have HD := Lib.hid (rackRot_no (hR.ext hb1) n q a x hn)
  clear hR
  have HB := Lib.hid hb1
  clear hb1 hS1 hS
  go_enter Tryz.func10, Tryz.ntmps10
  go_wp2_with (first | (go_at_call 26; go_loud (with_reducible refine HRk.out.mono ?_); rintro er w1 ⟨rfl, rfl⟩) | (go_at_call 37; go_loud (with_reducible refine HD.out.mono ?_); rintro er w2 ⟨rfl, rfl⟩) | fail)
  go_ret
  exact ⟨rfl, HB.out⟩
set_option maxRecDepth 100000 in
set_option maxHeartbeats 2000000 in
theorem svNd_rotin {w : World} {sv b r t g s tb gr : Nat} {me ws : Value} {last : Int} {cf : CfgM} {cs : Nat → CV} (hS : SvAt w sv b r t g s tb gr me ws last cf cs) {o : Nat → Option Nat} {M : RackM} (hR : RackAt w o r M) {n : Nat} {q x : Int} (hn : n < M.n) (hk : (M.d n).bad q (x == 0) ≠ 0) (Ab : Option Addr) (nb cb : Nat) :
    Calls Tryz.prog 10 #[.pointer (some ⟨sv, 0, none⟩), .agg (stepC 9 0 n q 0 x Ab nb cb)] w fun e w' => e = .returned (.bool false) ∧ Below w.heap.size w w' := by
  have hb1 := below_new w (.cells (stepC 9 0 n q 0 x Ab nb cb) 37)
  have hS1 := hS.ext hb1
  have c0 : (w.alloc (.cells (stepC 9 0 n q 0 x Ab nb cb) 37)).cell? ⟨sv, 0, none⟩ = some (.pointer (some ⟨b, 0, none⟩)) := hS1.bk.cell 0
  have HRk := Lib.hid (bRack_any hS1.br.bk)
  have HD := Lib.hid (rackRot_in (hR.ext hb1) n q x hn hk)
  clear hR hk
  have HB := Lib.hid hb1
  clear hb1 hS1 hS
  go_enter Tryz.func10, Tryz.ntmps10
  go_wp2_with (first | (go_at_call 26; go_loud (with_reducible refine HRk.out.mono ?_); rintro er w1 ⟨rfl, rfl⟩) | (go_at_call 37; go_loud (with_reducible refine HD.out.mono ?_); rintro er w2 ⟨rfl, rfl⟩) | fail)
  go_ret
  exact ⟨rfl, HB.out⟩
set_option maxRecDepth 100000 in
set_option maxHeartbeats 2000000 in
theorem svNd_kind {w : World} {sv b r t g s tb gr : Nat} {me ws : Value} {last : Int} {cf : CfgM} {cs : Nat → CV} (hS : SvAt w sv b r t g s tb gr me ws last cf cs)  (Ab : Option Addr) (nb cb : Nat) :
    Calls Tryz.prog 10 #[.pointer (some ⟨sv, 0, none⟩), .agg (stepC 10 0 0 0 0 0 Ab nb cb)] w fun e w' => e = .returned (.bool false) ∧ Below w.heap.size w w' := by
  have hb1 := below_new w (.cells (stepC 10 0 0 0 0 0 Ab nb cb) 37)
  have hS1 := hS.ext hb1
  have c0 : (w.alloc (.cells (stepC 10 0 0 0 0 0 Ab nb cb) 37)).cell? ⟨sv, 0, none⟩ = some (.pointer (some ⟨b, 0, none⟩)) := hS1.bk.cell 0
  have HRk := Lib.hid (bRack_any hS1.br.bk)
  have HB := Lib.hid hb1
  clear hb1 hS1 hS
  go_enter Tryz.func10, Tryz.ntmps10
  go_wp2_with (first | (go_at_call 26; go_loud (with_reducible refine HRk.out.mono ?_); rintro er w1 ⟨rfl, rfl⟩) | fail)
  go_ret
  exact ⟨rfl, HB.out⟩
set_option maxRecDepth 100000 in
theorem svBroker_any {w : World} {sv b : Nat} {cs : Nat → CV} (h : Bk w sv 81 (svA b cs)) : Calls Tryz.prog 13 #[.pointer (some ⟨sv, 0, none⟩)] w fun e w' => e = .returned (.pointer (some ⟨b, 0, none⟩)) ∧ w' = w := by
  have c0 : w.cell? ⟨sv, 0, none⟩ = some (.pointer (some ⟨b, 0, none⟩)) := h.cell 0
  clear h
  go_enter Tryz.func13, Tryz.ntmps13
  go_wp2_with fail
  go_ret
  exact ⟨rfl, rfl⟩
end Go.Proofs.YtkdlofgfkfhofaaGreatDoor

/-
  stavelaw25: ServerNone.
-/
namespace Go.Proofs.YtkdlofgfkfhofaaGreatDoor
open Go.RowKit Go.Maps

abbrev cf7b : CfgM := ⟨(7 : Nat), (1 : Nat), (2 : Nat), (2 : Nat), (1 : Nat)⟩
/-- a step that is refused -/
structure Sp where
  k : Int
  c : Int
  n : Int
  q : Int
  x : Int
  A : Option Addr
  m : Nat
  cp : Nat
def Sp.cells (s : Sp) : List Value := [.int .i64 s.k, .int .i64 s.c, .int .i64 s.n, .int .i64 s.q, .int .i64 0, .int .u32 s.x, .slice none 0 0, .slice s.A s.m s.cp]
def spL (c d : Int) (A : Option Addr) (m cp : Nat) : List Sp := [⟨1, c, 0, 0, 0, A, m, cp⟩, ⟨1, -1, 0, 0, 0, A, m, cp⟩, ⟨7, 0, d, 0, 0, none, 0, 0⟩, ⟨8, 0, -1, 0, 0, none, 0, 0⟩, ⟨9, 0, d, 0, 1, none, 0, 0⟩, ⟨9, 0, 0, 99, 1, none, 0, 0⟩, ⟨9, 0, 1, 0, 0, none, 0, 0⟩, ⟨10, 0, 0, 0, 0, none, 0, 0⟩]
def ldSp (v : Value) : Sem Value := Instr.loadAt 37 v
theorem ldSp_eq (v : Value) : Instr.loadAt 37 v = ldSp v := rfl
def stSp (v u : Value) : Sem Unit := Instr.storeAt 37 v u
theorem stSp_eq (v u : Value) : Instr.storeAt 37 v u = stSp v u := rfl
theorem size_sp : (Tryz.prog.info? 37).map (·.size) = some 8 := by kernel_rfl
theorem Sp.one (s : Sp) : s.cells.toArray.all (·.oneCell') = true :=
  all_oneCell_toArray fun v hv => by
    unfold Sp.cells at hv
    simp only [List.mem_cons, List.mem_nil_iff, or_false] at hv
    rcases hv with rfl | rfl | rfl | rfl | rfl | rfl | rfl | rfl <;> rfl
theorem stSp_new (w : World) (g : Nat) (hg : g = w.heap.size) (old : Array Value) (ho : old.size = 8) (s : Sp) : (stSp (.pointer (some ⟨g, 0, none⟩)) (.agg s.cells.toArray)).run Tryz.prog (w.alloc (.cells old 37)) = .ok () (w.alloc (.cells s.cells.toArray 37)) := by
  subst hg
  exact run_storeAt_new w 37 _ _ size_sp (by rw [ho]; rfl) s.one
theorem ldSp_mid {w : World} {g o : Nat} {s : Sp} (h : ∀ j v, s.cells[j]? = some v → w.cell? ⟨g, o + j, none⟩ = some v) : (ldSp (.pointer (some ⟨g, o, none⟩))).run Tryz.prog w = .ok (.agg s.cells.toArray) w :=
  run_loadAt_mid w g o 37 s.cells _ h Tryz.underlying37 rfl size_sp
abbrev spA (c d : Int) (A : Option Addr) (m cp : Nat) : Array Value := #[.int .i64 1, .int .i64 c, .int .i64 0, .int .i64 0, .int .i64 0, .int .u32 0, .slice none 0 0, .slice A m cp, .int .i64 1, .int .i64 (-1), .int .i64 0, .int .i64 0, .int .i64 0, .int .u32 0, .slice none 0 0, .slice A m cp, .int .i64 7, .int .i64 0, .int .i64 d, .int .i64 0, .int .i64 0, .int .u32 0, .slice none 0 0, .slice none 0 0, .int .i64 8, .int .i64 0, .int .i64 (-1), .int .i64 0, .int .i64 0, .int .u32 0, .slice none 0 0, .slice none 0 0, .int .i64 9, .int .i64 0, .int .i64 d, .int .i64 0, .int .i64 0, .int .u32 1, .slice none 0 0, .slice none 0 0, .int .i64 9, .int .i64 0, .int .i64 0, .int .i64 99, .int .i64 0, .int .u32 1, .slice none 0 0, .slice none 0 0, .int .i64 9, .int .i64 0, .int .i64 1, .int .i64 0, .int .i64 0, .int .u32 0, .slice none 0 0, .slice none 0 0, .int .i64 10, .int .i64 0, .int .i64 0, .int .i64 0, .int .i64 0, .int .u32 0, .slice none 0 0, .slice none 0 0]
theorem sp8 : ∀ x : Sp, x.cells.length = 8 := fun _ => rfl
theorem spA_get {c d : Int} {A : Option Addr} {m cp q : Nat} {s : Sp} (h : (spL c d A m cp)[q]? = some s) {w : World} {g : Nat} (hk : Bk w g 37 (spA c d A m cp)) : ∀ j v, s.cells[j]? = some v → w.cell? ⟨g, q * 8 + j, none⟩ = some v := fun j v hv => by
  have e : spA c d A m cp = ((spL c d A m cp).flatMap Sp.cells).toArray := rfl
  rw [hk.cell, e, List.getElem?_toArray]
  exact flat_get Sp.cells 8 sp8 _ q j s v h hv
theorem noSteps {w v : World} {sv b r t g s tb gr : Nat} {me ws : Value} {last : Int} {cf : CfgM} {cs : Nat → CV} (hS : SvAt w sv b r t g s tb gr me ws last cf cs) {o : Nat → Option Nat} {W : Nat → Nat → List UInt8} (hSt : StoAt w o r 2 4 W) (hb : Below w.heap.size w v) {c d : Int} (hc : 4 ≤ c) (hd : 2 ≤ d) {A : Option Addr} {m cp : Nat} {x : Sp} (hx : x ∈ spL c d A m cp) :
    Calls Tryz.prog 10 #[.pointer (some ⟨sv, 0, none⟩), .agg x.cells.toArray] v fun e w' => e = .returned (.bool false) ∧ Below v.heap.size v w' := by
  obtain ⟨M, hR, hM⟩ := hSt.ext hb
  have hS := hS.ext hb
  have hn := hM.nE
  have hs := hM.secE
  unfold spL at hx
  simp only [List.mem_cons, List.mem_nil_iff, or_false] at hx
  rcases hx with rfl | rfl | rfl | rfl | rfl | rfl | rfl | rfl
  · exact svNd_conn (c := c) hS (by omega) A m cp
  · exact svNd_conn (c := -1) hS (by omega) A m cp
  · exact svNd_die (n := d) hS hR (by omega) none 0 0
  · exact svNd_replace (n := -1) hS hR (by omega) none 0 0
  · exact svNd_rot (n := d) (q := 0) (a := 0) (x := 1) hS hR (by omega) none 0 0
  · exact svNd_rotin (n := 0) (q := 99) (x := 1) hS hR (by omega) (by
      have hs2 : (M.d 0).n = 4 := hs
      unfold DskM.bad
      split
      · decide
      · rw [if_pos (.inr (.inr (by omega)))]
        decide) none 0 0
  · exact svNd_rotin (n := 1) (q := 0) (x := 0) hS hR (by omega) (by
      unfold DskM.bad
      split
      · decide
      · rw [if_pos (.inl rfl)]
        decide) none 0 0
  · exact svNd_kind hS none 0 0
/-- nothing came on any connection -/
def Quiet (w : World) (sv b : Nat) (cs : Nat → CV) : Prop := ∀ i, i < 4 → CnAt w (cs i) sv b [] 0 [] ∧ (cs i).aw = .slice none 0 0
theorem quiet_z (w : World) (sv b : Nat) : Quiet w sv b zCs := fun _ _ => ⟨zC_at w sv b, rfl⟩
theorem drain_quiet {w : World} {sv b r t g s tb gr : Nat} {me ws : Value} {last : Int} {cf : CfgM} {cs : Nat → CV} (hS : SvAt w sv b r t g s tb gr me ws last cf cs) (hl : SvL sv b t g s tb) (hQ : Quiet w sv b cs) {i : Nat} (hi : i < 4) :
    Calls Tryz.prog 19 #[.pointer (some ⟨sv, 0, none⟩), .int .i64 i, .int .i64 9] w fun e w' => ∃ A c cs', e = .returned (.slice A 0 c) ∧ SvAt w' sv b r t g s tb gr me ws last cf cs' ∧ Quiet w' sv b cs' ∧ Turned (fun j => j = sv) w w' := by
  have h := svDrain_any hS.bk hl.b hi (hQ i hi).1 9 0 rfl (by simp)
  refine h.mono ?_
  rintro e w' ⟨A, c, v, rfl, _, hv, hw, hC, _⟩
  refine ⟨A, c, upC cs i v, rfl, hS.step hl hw, fun j hj => ?_, hw.tu⟩
  by_cases hji : j = i
  · subst hji
    rw [upC_same]
    exact ⟨hC, hv.trans (hQ j hj).2⟩
  · have e : upC cs i v j = cs j := if_neg hji
    rw [e]
    exact ⟨(hQ j hj).1.turned hw.tu (fun _ h => .inl h), (hQ j hj).2⟩
attribute [local go_sem ↓] sliced_past ldSp_eq stSp_eq
attribute [local go_sem] pastA_zero
set_option maxRecDepth 100000 in
set_option maxHeartbeats 8000000 in
theorem serverNone_any (conn num : Int) (A : Option Addr) (n c : Nat) (bs : List UInt8) {w : World} (hz1 : -9223372036854775808 ≤ conn ∧ conn ≤ 9223372036854775807) (hz2 : -9223372036854775808 ≤ num ∧ num ≤ 9223372036854775807) (hr : RdB w A n c bs) (hL : ErrLaid w) :
    Calls Tryz.prog 7 #[.int .i64 conn, .int .i64 num, .slice A n c] w fun e w' => e = .returned (.bool true) ∧ Below w.heap.size w w' := by
  have HNw : Hid (Calls Tryz.prog 8 #[.agg #[.int .i64 7, .int .i64 1, .int .i64 2, .int .i64 2, .int .i64 1]] w fun e w' => ∃ sv b r t g s tb gr me, e = .returned (.pointer (some ⟨sv, 0, none⟩)) ∧ SvAt w' sv b r t g s tb gr me (.slice none 0 0) 0 cf7b zCs ∧ SvL sv b t g s tb ∧ w.heap.size ≤ b ∧ (∃ o W, StoAt w' o r 2 4 W ∧ o b = none ∧ o sv = none) ∧ Below w.heap.size w w') := playNew_any 7 1 2 2 1 4 rfl (by omega) (by omega) (by omega) (by omega) (by omega) (at_one (by omega) (by omega) (by omega) (by omega) (by omega) (by omega)) (by omega) hL
  have HWs := Lib.hid (fun v => within_any conn 0 9 v (by omega) (by omega) (by omega) hz1.1 hz1.2)
  have HWn := Lib.hid (fun v => within_any num 0 9 v (by omega) (by omega) (by omega) hz2.1 hz2.2)
  have hm1 := within_in conn 0 9 (by omega)
  have hk1 := within_in num 0 9 (by omega)
  generalize within conn 0 9 = ci at HWs hm1
  generalize within num 0 9 = ni at HWn hk1
  obtain ⟨cc, hmin, hcn, hcc⟩ := min_int n 30 (by omega)
  have hcap := hr.cap
  have hbig := hr.big
  have HLd := Lib.hid hL
  have hri : (cc : Int) ≤ (n : Int) := by omega
  have hrj : (n : Int) ≤ (c : Int) := by omega
  have hrk : (cc : Int) ≤ (c : Int) := by omega
  clear hL hr hz1 hz2
  go_enter Tryz.func7, Tryz.ntmps7
  go_wp2_with fail
  with_reducible refine HNw.out.mono ?_
  rintro er w1 ⟨sv, b, r, t, g, s, tb, gr, me, rfl, hS1, hL1, hb1, ⟨o, W, hSt, ho1, ho2⟩, hbe1⟩
  have HB1 := Lib.hid hbe1
  have HS1 := Lib.hid hS1
  have HL1 := Lib.hid hL1
  have HSt := Lib.hid hSt
  clear hbe1 hS1 hL1 hSt HNw
  go_wp2_with (first | (go_at_call 12; go_loud (with_reducible refine (HWs.out _).mono ?_); rintro er w2 ⟨rfl, rfl⟩) | (go_at_call 12; go_loud (with_reducible refine (HWn.out _).mono ?_); rintro er w2 ⟨rfl, rfl⟩) | fail)
  have hn2 := below_new w1 (.cells (spA (4 + ci) (2 + ni) A cc c) 37)
  have HK2 : Hid (Bk (w1.alloc (.cells (spA (4 + ci) (2 + ni) A cc c) 37)) w1.heap.size 37 (spA (4 + ci) (2 + ni) A cc c)) := Bk.made w1 37 _
  have HB2 := Lib.hid hn2
  have HDo : Hid (∀ v, Below w1.heap.size w1 v → ∀ x ∈ spL (4 + ci) (2 + ni) A cc c, Calls Tryz.prog 10 #[.pointer (some ⟨sv, 0, none⟩), .agg x.cells.toArray] v fun e w' => e = .returned (.bool false) ∧ Below v.heap.size v w') := fun v hv x hx => noSteps HS1.out HSt.out hv (by omega) (by omega) hx
  have HZ2 : Hid (∀ q, q < 8 → ∃ x, (spL (4 + ci) (2 + ni) A cc c)[q]? = some x) := fun q hq => ⟨(spL (4 + ci) (2 + ni) A cc c)[q]'hq, List.getElem?_eq_getElem _⟩
  have hg2 : w1.heap.size = w1.heap.size := rfl
  generalize w1.alloc (.cells (spA (4 + ci) (2 + ni) A cc c) 37) = w2 at HK2 HB2 ⊢
  generalize hg : w1.heap.size = g2 at HK2 ⊢
  have HG := Lib.hid hg
  clear hn2 hg2 hg
  go_loopw [43] (fun i wr => ∃ q : Nat, q ≤ 8 ∧ i = .int .i64 q ∧ Hid (Below w1.heap.size w1 wr) ∧ Hid (Below w2.heap.size w2 wr)) (fun i _ => 8 - (intOf i).toNat)
  case atStart => exact ⟨0, Nat.zero_le _, rfl, HB2.out, Below.refl _ _⟩
  case round =>
    obtain ⟨q, hq, rfl, hB, hBw⟩ := hrel
    by_cases hlt : q < 8
    · have hi : (q : Int) < 8 := by omega
      obtain ⟨x, hx⟩ := HZ2.out q hlt
      have hl0 : (ldSp (.pointer (some ⟨g2, q * 8, none⟩))).run Tryz.prog wr = _ := ldSp_mid (spA_get hx (HK2.out.ext hBw.out))
      have hst := stSp_new wr wr.heap.size rfl #[.int .i64 0, .int .i64 0, .int .i64 0, .int .i64 0, .int .i64 0, .int .u32 0, .slice none 0 0, .slice none 0 0] rfl x
      have hn3 := below_new wr (.cells x.cells.toArray 37)
      have hl3 : (ldSp (.pointer (some ⟨wr.heap.size, 0, none⟩))).run Tryz.prog (wr.alloc (.cells x.cells.toArray 37)) = _ := ldSp_mid (fun j v hv => by rw [Nat.zero_add, (Bk.made wr 37 x.cells.toArray).cell, List.getElem?_toArray]; exact hv)
      have HD := Lib.hid (HDo.out _ (hB.out.trans (below_le hB.out.size hn3)) x (List.mem_of_getElem? hx))
      have HB3 := Lib.hid (hB.out.trans (below_le hB.out.size hn3))
      have HB4 := Lib.hid (hBw.out.trans (below_le hBw.out.size hn3))
      clear hn3 hx hB hBw
      generalize x.cells.toArray = xc at hl0 hst hl3 HD HB3 HB4
      go_wp2_with fail
      with_reducible refine HD.out.mono ?_
      rintro er w6 ⟨rfl, hb6⟩
      have HB5 := Lib.hid (HB3.out.trans (below_le HB3.out.size hb6))
      have HB6 := Lib.hid (HB4.out.trans (below_le HB4.out.size hb6))
      clear hb6 HB3 HB4 HD hl0 hst hl3
      go_wp2_with fail
      exact ⟨⟨q + 1, by omega, by go_num, HB5.out, HB6.out⟩, by simp [intOf]; omega⟩
    · have hi : ¬ (q : Int) < 8 := by omega
      have HS2 : Hid (∃ cs, SvAt wr sv b r t g s tb gr me (.slice none 0 0) 0 cf7b cs ∧ Quiet wr sv b cs) := ⟨zCs, HS1.out.ext hB.out, quiet_z _ _ _⟩
      have HT2 : Hid (Turned (fun j => j = sv) w1 wr) := Turned.of_below hB.out
      clear HDo HZ2 HK2 hB hBw HB2
      go_wp2_with fail
      obtain ⟨wo, rfl⟩ : ∃ wo, wo = wr := ⟨_, rfl⟩
      go_loopw [12] (fun i wr => ∃ j : Int, -1 ≤ j ∧ j ≤ 5 ∧ i = .int .i64 j ∧ Hid (∃ cs, SvAt wr sv b r t g s tb gr me (.slice none 0 0) 0 cf7b cs ∧ Quiet wr sv b cs) ∧ Hid (Turned (fun j => j = sv) w1 wr)) (fun i _ => (5 - intOf i).toNat)
      case atStart => exact ⟨-1, by omega, by omega, rfl, HS2.out, HT2.out⟩
      case round =>
        obtain ⟨j, hj0, hj5, rfl, hS, hT⟩ := hrel
        clear HS2 HT2
        by_cases hle : j ≤ 4
        · by_cases hk : 0 ≤ j ∧ j < 4
          · obtain ⟨jn, rfl⟩ := Int.eq_ofNat_of_zero_le hk.1
            obtain ⟨cs, hSv, hQ⟩ := hS.out
            have hj4 : jn < 4 := by omega
            have HWt := Lib.hid (svWaits_any hSv.bk hj4 (hQ jn hj4).1)
            have HAw := Lib.hid (svAwaits_any hSv.bk hj4 (hQ jn hj4).2)
            have HDr := Lib.hid (drain_quiet hSv HL1.out hQ hj4)
            clear hSv hQ hS
            go_wp2_with (first | (go_at_call 18; go_loud (with_reducible refine HWt.out.mono ?_); rintro er w3 ⟨rfl, rfl⟩) | (go_at_call 17; go_loud (with_reducible refine HAw.out.mono ?_); rintro er w4 ⟨rfl, rfl⟩) | (go_at_call 19; go_loud (with_reducible refine HDr.out.mono ?_); rintro er w5 ⟨A5, c5, cs5, rfl, hS5, hQ5, hT5⟩; have HS5 := Lib.hid hS5; have HQ5 := Lib.hid hQ5; have HT5 := Lib.hid hT5; clear hS5 hQ5 hT5) | fail)
            exact ⟨⟨(jn : Int) + 1, by omega, by omega, rfl, ⟨cs5, HS5.out, HQ5.out⟩, hT.out.trans HT5.out fun _ _ h => h⟩, by simp [intOf]; omega⟩
          · have HWt := Lib.hid (fun v => svNo_waits (w := v) (sv := sv) hk)
            have HAw := Lib.hid (fun v => svNo_awaits (w := v) (sv := sv) hk)
            have HDr := Lib.hid (fun v => svNo_drain (w := v) (sv := sv) (n := 9) hk)
            clear hk
            go_wp2_with (first | (go_at_call 18; go_loud (with_reducible refine (HWt.out _).mono ?_); rintro er w3 ⟨rfl, rfl⟩) | (go_at_call 17; go_loud (with_reducible refine (HAw.out _).mono ?_); rintro er w4 ⟨rfl, rfl⟩) | (go_at_call 19; go_loud (with_reducible refine (HDr.out _).mono ?_); rintro er w5 ⟨rfl, rfl⟩) | fail)
            exact ⟨⟨j + 1, by omega, by omega, rfl, hS.out, hT.out⟩, by simp [intOf]; omega⟩
        · clear hj0
          obtain ⟨cs, hSv, _⟩ := hS.out
          have hcA : cf7b.At 2 4 := at_one (by omega) (by omega) (by omega) (by omega) (by omega) (by omega)
          have hSt2 := HSt.out.turned hT.out (fun i _ hi he => by
            have he : i = sv := he
            subst he
            exact hi ho2)
          have HBk := Lib.hid (svBroker_any hSv.bk)
          have HMd := Lib.hid (bMode_any hSt2 hcA hSv.br)
          have hsv : w.heap.size ≤ sv := by have := HL1.out.b; omega
          have HBr := Lib.hid (hT.out.below HB1.out HB1.out.size (fun i hi => by have hi : i = sv := hi; omega))
          clear hS hT hSv hSt2 hcA
          go_wp2_with (first | (go_at_call 13; go_loud (with_reducible refine HBk.out.mono ?_); rintro er w3 ⟨rfl, rfl⟩) | (go_at_call 20; go_loud (with_reducible refine HMd.out.mono ?_); rintro er w4 ⟨rfl, hb4⟩; have HB4 := Lib.hid (HBr.out.trans (below_le HBr.out.size hb4)); clear hb4) | (go_at_call 3; go_loud (with_reducible refine (serverRuns_any (HLd.out.below HB4.out)).mono ?_); rintro er w5 ⟨rfl, hb5⟩; have HB5 := Lib.hid (HB4.out.trans (below_le HB4.out.size hb5)); clear hb5) | fail)
          go_ret
          exact ⟨rfl, HB5.out⟩
end Go.Proofs.YtkdlofgfkfhofaaGreatDoor

/-
  stavelaw25: ServerNone, over whatever came.
-/
namespace Go.Proofs.YtkdlofgfkfhofaaGreatDoor
open Go.ChangeShapes Go.WideShapes Go.ChangeAt Go.RowKit
set_option maxRecDepth 100000 in
theorem serverNone_law {H : Type} {enc : TypeId × Value → H} {base : Nat} {v0 v1 v2 : Value} {d0 d1 d2 : DataW H} {p0 p1 p2 : List MemPlace} (w : World) (hl : ErrLaid w) (h0 : Came enc w base 3 v0 d0 p0) (h1 : Came enc w base 3 v1 d1 p1) (h2 : Came enc w base 26 v2 d2 p2) :
    Calls Tryz.prog 7 #[v0, v1, v2] w fun er w' => er = .returned (.bool true) ∧ Below w.heap.size w w' := by
  obtain ⟨z0, rfl, hz0⟩ := h0.int
  obtain ⟨z1, rfl, hz1⟩ := h1.int
  obtain ⟨A, n, c, l, rfl, hr⟩ := h2.bytes
  exact serverNone_any z0 z1 A n c l hz0 hz1 hr hl
end Go.Proofs.YtkdlofgfkfhofaaGreatDoor
