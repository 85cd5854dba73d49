/-
  batch: Right, Put.
-/
import Derived.Test.YtpfdbbcfcimmfaaGreatDoorEBat
namespace Go.Proofs.YtpfdbbcfcimmfaaGreatDoor
open Go.RowKit

def Bat.cells (b : Bat) (A : Option Addr) (n c : Nat) : List Value := [.int .i64 b.time, .int .i64 b.prod, .int .i64 b.seq, .slice A n c]
def ldB (v : Value) : Sem Value := Instr.loadAt 24 v
theorem ldB_eq (v : Value) : Instr.loadAt 24 v = ldB v := rfl
theorem size_b : (Tryz.prog.info? 24).map (·.size) = some 4 := by kernel_rfl
theorem ldB_at {w : World} {g o : Nat} {b : Bat} {A : Option Addr} {n c : Nat} (h : ∀ j u, (b.cells A n c)[j]? = some u → w.cell? ⟨g, o + j, none⟩ = some u) : (ldB (.pointer (some ⟨g, o, none⟩))).run Tryz.prog w = .ok (.agg #[.int .i64 b.time, .int .i64 b.prod, .int .i64 b.seq, .slice A n c]) w := by
  exact run_loadAt_mid w g o 24 (b.cells A n c) _ h Tryz.underlying24 rfl size_b
theorem ldB_bk {w : World} {g : Nat} {b : Bat} {A : Option Addr} {n c : Nat} (h : Bk w g 24 #[.int .i64 b.time, .int .i64 b.prod, .int .i64 b.seq, .slice A n c]) : (ldB (.pointer (some ⟨g, 0, none⟩))).run Tryz.prog w = .ok (.agg #[.int .i64 b.time, .int .i64 b.prod, .int .i64 b.seq, .slice A n c]) w :=
  ldB_at (fun j u hu => by rw [Nat.zero_add, h.cell, ← hu]; simp [Bat.cells])
attribute [local go_sem ↓] ldB_eq
set_option maxRecDepth 100000 in
set_option maxHeartbeats 2000000 in
theorem bRight_any (b : Bat) (A : Option Addr) (n c : Nat) (w : World) (hr : RdT w A n c b.vals) (w0 : World) (B : Nat) (hb : Below B w0 w) (hB : B ≤ w.heap.size) :
    Calls Tryz.prog 103 #[.agg #[.int .i64 b.time, .int .i64 b.prod, .int .i64 b.seq, .slice A n c]] w fun e w' => e = .returned (.bool (rightB b)) ∧ Below B w0 w' := by
  have hbn := below_new w (.cells #[.int .i64 b.time, .int .i64 b.prod, .int .i64 b.seq, .slice A n c] 24)
  have hB1 := hb.alloc hB (.cells #[.int .i64 b.time, .int .i64 b.prod, .int .i64 b.seq, .slice A n c] 24)
  have hP := bput_any b A n c _ (hr.ext hbn) _ _ (Below.refl (w.alloc (.cells #[.int .i64 b.time, .int .i64 b.prod, .int .i64 b.seq, .slice A n c] 24)).heap.size _) (Nat.le_refl _)
  have hbk := Bk.made w 24 #[.int .i64 b.time, .int .i64 b.prod, .int .i64 b.seq, .slice A n c]
  have hld := ldB_bk hbk
  have HP := Lib.hid hP
  have HBK := Lib.hid hbk
  have HB1 := Lib.hid hB1
  have hsz : Hid (B ≤ (w.alloc (.cells #[.int .i64 b.time, .int .i64 b.prod, .int .i64 b.seq, .slice A n c] 24)).heap.size) := by show _ ≤ _; simp; omega
  clear hP hbk hbn hB1
  unfold rightB
  cases hok : okAll batF (batV b)
  case' true =>
    by_cases hp : 0 < b.prod
  all_goals
    go_enter Tryz.func103, Tryz.ntmps103
    go_wp2_with fail
    refine HP.out.mono ?_
    rintro e w1 ⟨A1, M1, c1, v1, rfl, hp1, hb1⟩
    have hnil := hp1.nil
    have hgd := hp1.guard 10
    rw [hok] at hnil
    have hbk1 := HBK.out.ext hb1
    have c1 : w1.cell? ⟨w.heap.size, 1, none⟩ = some (.int .i64 b.prod) := hbk1.cell 1
    have c2 : w1.cell? ⟨w.heap.size, 2, none⟩ = some (.int .i64 b.seq) := hbk1.cell 2
    clear hbk1
    go_wp2_with fail
    go_ret
    refine ⟨ret_bool ?_, HB1.out.trans (below_le hsz.out hb1)⟩
    first | rfl | (simp <;> omega) | (simp; try omega)
set_option maxRecDepth 100000 in
set_option maxHeartbeats 2000000 in
theorem bPut_any (b : Bat) (A : Option Addr) (n c : Nat) (w : World) (hr : RdT w A n c b.vals) (w0 : World) (B : Nat) (hb : Below B w0 w) (hB : B ≤ w.heap.size) :
    Calls Tryz.prog 70 #[.agg #[.int .i64 b.time, .int .i64 b.prod, .int .i64 b.seq, .slice A n c]] w fun e w' => ∃ A' M c', e = .returned (.slice A' M c') ∧ OwnB w' B (.slice A' M c') (putB b) ∧ Below B w0 w' := by
  have hbn := below_new w (.cells #[.int .i64 b.time, .int .i64 b.prod, .int .i64 b.seq, .slice A n c] 24)
  have hB1 := hb.alloc hB (.cells #[.int .i64 b.time, .int .i64 b.prod, .int .i64 b.seq, .slice A n c] 24)
  have hR := bRight_any b A n c _ (hr.ext hbn) _ _ (Below.refl (w.alloc (.cells #[.int .i64 b.time, .int .i64 b.prod, .int .i64 b.seq, .slice A n c] 24)).heap.size _) (Nat.le_refl _)
  have hbk := Bk.made w 24 #[.int .i64 b.time, .int .i64 b.prod, .int .i64 b.seq, .slice A n c]
  have hld := ldB_bk hbk
  have HBK := Lib.hid hbk
  have HB1 := Lib.hid hB1
  have HRT := Lib.hid (hr.ext hbn)
  have hsz : Hid (B ≤ (w.alloc (.cells #[.int .i64 b.time, .int .i64 b.prod, .int .i64 b.seq, .slice A n c] 24)).heap.size) := by show _ ≤ _; simp; omega
  clear hbk hbn hB1
  unfold putB
  cases hok : rightB b
  · rw [hok] at hR
    have HR := Lib.hid hR
    clear hR
    go_enter Tryz.func70, Tryz.ntmps70
    go_wp2_with fail
    refine HR.out.mono ?_
    rintro e w1 ⟨rfl, hb1⟩
    go_wp2_with fail
    go_ret
    exact ⟨none, 0, 0, rfl, OwnB.nil _ _, HB1.out.trans (below_le hsz.out hb1)⟩
  · rw [hok] at hR
    have HR := Lib.hid hR
    have hall : okAll batF (batV b) = true := by unfold rightB at hok; rw [Bool.and_eq_true] at hok; exact hok.1
    have Hall := Lib.hid hall
    clear hR hall
    go_enter Tryz.func70, Tryz.ntmps70
    go_wp2_with fail
    refine HR.out.mono ?_
    rintro e w1 ⟨rfl, hb1⟩
    have hbk1 := HBK.out.ext hb1
    have hld1 := ldB_bk hbk1
    have hB2 := HB1.out.trans (below_le hsz.out hb1)
    have hP := bput_any b A n c w1 (HRT.out.ext hb1) w0 B hB2 (Nat.le_trans hsz.out hb1.size)
    have HP := Lib.hid hP
    clear hP hld hbk1
    go_wp2_with fail
    refine HP.out.mono ?_
    rintro e w2 ⟨A2, M2, c2, v2, rfl, hp2, hb2⟩
    rcases hp2 with ⟨_, rfl, ho⟩ | ⟨hno, _⟩
    · go_wp2_with fail
      go_ret
      exact ⟨_, _, _, rfl, ho, hb2⟩
    · rw [Hall.out] at hno; cases hno
end Go.Proofs.YtpfdbbcfcimmfaaGreatDoor
