import Derived.Test.YtkdlofgfkfhofaaGreatDoorP29
import Derived.Test.YtkdlofgfkfhofaaGreatDoorP27
import Derived.Deep.RegionHeld3
/-
  ask: memory of an ask; Writes, Entry, bare.
-/
namespace Go.Proofs.YtkdlofgfkfhofaaGreatDoor
open Go.RowKit

def ldA (v : Value) : Sem Value := Instr.loadAt 32 v
theorem ldA_eq (v : Value) : Instr.loadAt 32 v = ldA v := rfl
def stA (v u : Value) : Sem Unit := Instr.storeAt 32 v u
theorem stA_eq (v u : Value) : Instr.storeAt 32 v u = stA v u := rfl
theorem size_a : (Tryz.prog.info? 32).map (·.size) = some 14 := by kernel_rfl
theorem ldA_bk {w : World} {G : Nat} {co k : Int} {t g : ByteArray} {p1 p2 p3 p4 p5 p6 p7 p8 p9 : Int} {A : Option Addr} {n c : Nat} (h : Bk w G 32 #[.int .i64 co, .int .i64 k, .string t, .string g, .int .i64 p1, .int .i64 p2, .int .i64 p3, .int .i64 p4, .int .i64 p5, .int .i64 p6, .int .i64 p7, .int .i64 p8, .int .i64 p9, .slice A n c]) :
    (ldA (.pointer (some ⟨G, 0, none⟩))).run Tryz.prog w = .ok (.agg #[.int .i64 co, .int .i64 k, .string t, .string g, .int .i64 p1, .int .i64 p2, .int .i64 p3, .int .i64 p4, .int .i64 p5, .int .i64 p6, .int .i64 p7, .int .i64 p8, .int .i64 p9, .slice A n c]) w := by
  unfold ldA
  simp only [Instr.loadAt, Instr.sureAddr, Sem.run_bind, Sem.run_pure, Result.andThen_ok, run_loadVar_row w G _ _ _ (0, 0) _ h Tryz.underlying32 rfl size_a]
theorem stA_row {w : World} {G : Nat} {old : Array Value} (h : Bk w G 32 old) (ho : old.size = 14) (co k : Int) (t g : ByteArray) (p1 p2 p3 p4 p5 p6 p7 p8 p9 : Int) (A : Option Addr) (n c : Nat) :
    (stA (.pointer (some ⟨G, 0, none⟩)) (.agg #[.int .i64 co, .int .i64 k, .string t, .string g, .int .i64 p1, .int .i64 p2, .int .i64 p3, .int .i64 p4, .int .i64 p5, .int .i64 p6, .int .i64 p7, .int .i64 p8, .int .i64 p9, .slice A n c])).run Tryz.prog w = .ok () (w.setRow G #[.int .i64 co, .int .i64 k, .string t, .string g, .int .i64 p1, .int .i64 p2, .int .i64 p3, .int .i64 p4, .int .i64 p5, .int .i64 p6, .int .i64 p7, .int .i64 p8, .int .i64 p9, .slice A n c]) := by
  unfold stA
  simp only [Instr.storeAt, Instr.sureAddr, Sem.run_bind, Sem.run_pure, Result.andThen_ok, run_storeVar_row w G _ _ old #[.int .i64 co, .int .i64 k, .string t, .string g, .int .i64 p1, .int .i64 p2, .int .i64 p3, .int .i64 p4, .int .i64 p5, .int .i64 p6, .int .i64 p7, .int .i64 p8, .int .i64 p9, .slice A n c] h size_a (by rw [ho]; rfl) (all_oneCell_toArray (one_all rfl))]
theorem stA_newAt (w : World) (G : Nat) (hG : G = w.heap.size) (co k : Int) (t g : ByteArray) (p1 p2 p3 p4 p5 p6 p7 p8 p9 : Int) (A : Option Addr) (n c : Nat) (old : Array Value) (ho : old.size = 14) :
    (stA (.pointer (some ⟨G, 0, none⟩)) (.agg #[.int .i64 co, .int .i64 k, .string t, .string g, .int .i64 p1, .int .i64 p2, .int .i64 p3, .int .i64 p4, .int .i64 p5, .int .i64 p6, .int .i64 p7, .int .i64 p8, .int .i64 p9, .slice A n c])).run Tryz.prog (w.alloc (.cells old 32)) = .ok () (w.alloc (.cells #[.int .i64 co, .int .i64 k, .string t, .string g, .int .i64 p1, .int .i64 p2, .int .i64 p3, .int .i64 p4, .int .i64 p5, .int .i64 p6, .int .i64 p7, .int .i64 p8, .int .i64 p9, .slice A n c] 32)) := by
  subst hG
  exact run_storeAt_new w 32 _ _ size_a ho (all_oneCell_toArray (one_all rfl))
theorem stB_newAt (w : World) (G : Nat) (hG : G = w.heap.size) (t p s : Int) (A : Option Addr) (n c : Nat) (old : Array Value) (ho : old.size = 4) :
    (stB (.pointer (some ⟨G, 0, none⟩)) (.agg #[.int .i64 t, .int .i64 p, .int .i64 s, .slice A n c])).run Tryz.prog (w.alloc (.cells old 30)) = .ok () (w.alloc (.cells #[.int .i64 t, .int .i64 p, .int .i64 s, .slice A n c] 30)) := by
  subst hG
  exact run_storeAt_new w 30 _ _ size_b ho (all_oneCell_toArray (one_all rfl))
theorem res_ask {fn : Func} {p u : Tmp} (h : fn.results = #[.cell p 32, .tmp u]) (tmps : Array Value) (w : World) (G : Nat) (co k : Int) (t g : ByteArray) (p1 p2 p3 p4 p5 p6 p7 p8 p9 : Int) (A : Option Addr) (n c : Nat) (hp : tmps.getD p undef = .pointer (some ⟨G, 0, none⟩))
    (hb : Bk w G 32 #[.int .i64 co, .int .i64 k, .string t, .string g, .int .i64 p1, .int .i64 p2, .int .i64 p3, .int .i64 p4, .int .i64 p5, .int .i64 p6, .int .i64 p7, .int .i64 p8, .int .i64 p9, .slice A n c]) :
    (results fn tmps).run Tryz.prog w = .ok (.tuple #[.agg #[.int .i64 co, .int .i64 k, .string t, .string g, .int .i64 p1, .int .i64 p2, .int .i64 p3, .int .i64 p4, .int .i64 p5, .int .i64 p6, .int .i64 p7, .int .i64 p8, .int .i64 p9, .slice A n c], tmps.getD u undef]) w := by
  rw [results_cell_tmp h, hp]
  simp only [asAddr, Sem.run_pure, Result.andThen_ok, run_loadVar_row w G _ _ _ (0, 0) _ hb Tryz.underlying32 rfl size_a]
theorem ldB_of_ask {w : World} {G : Nat} {co k : Int} {t g : ByteArray} {p1 p2 p3 p4 p5 p6 p7 p8 p9 : Int} {A : Option Addr} {n c : Nat} (h : Bk w G 32 #[.int .i64 co, .int .i64 k, .string t, .string g, .int .i64 p1, .int .i64 p2, .int .i64 p3, .int .i64 p4, .int .i64 p5, .int .i64 p6, .int .i64 p7, .int .i64 p8, .int .i64 p9, .slice A n c]) :
    (ldB (.pointer (some ⟨G, 10, none⟩))).run Tryz.prog w = .ok (.agg #[.int .i64 p7, .int .i64 p8, .int .i64 p9, .slice A n c]) w :=
  ldB_at (b := ⟨p7, p8, p9, []⟩) (fun j u hu => by
    rw [h.cell]
    match j, hu with
    | 0, hu => exact hu
    | 1, hu => exact hu
    | 2, hu => exact hu
    | 3, hu => exact hu
    | j + 4, hu => exact absurd (List.getElem?_eq_some_iff.1 hu).1 (by simp [Bat.cells]))
attribute [local go_sem ↓] ldB_eq stB_eq ldE_eq stE_eq ldA_eq stA_eq
set_option maxRecDepth 100000 in
set_option maxHeartbeats 4000000 in
theorem writes_any (k : Int) (w : World) : Calls Tryz.prog 55 #[.int .i64 k] w fun e w' => e = .returned (.bool (writK k)) ∧ w = w' := by
  have hk : k = 1 ∨ k = 2 ∨ k = 3 ∨ k = 4 ∨ k = 5 ∨ ((k == 1) = false ∧ (k == 2) = false ∧ (k == 3) = false ∧ (k == 4) = false ∧ (k == 5) = false) := by
    simp only [beq_eq_false_iff_ne]
    omega
  rcases hk with rfl | rfl | rfl | rfl | rfl | ⟨k1, k2, k3, k4, k5⟩
  all_goals
    go_enter Tryz.func55, Tryz.ntmps55
    go_wp2
    go_ret
  · exact ⟨rfl, rfl⟩
  · exact ⟨rfl, rfl⟩
  · exact ⟨rfl, rfl⟩
  · exact ⟨rfl, rfl⟩
  · exact ⟨rfl, rfl⟩
  · refine ⟨ret_bool ?_, rfl⟩
    cases hw : writK k
    · rfl
    · have h := writ_iff.1 hw
      simp only [beq_eq_false_iff_ne] at k1 k2 k3 k4 k5
      omega
set_option maxRecDepth 100000 in
set_option maxHeartbeats 4000000 in
theorem aent_any (a : Ask) (A : Option Addr) (n c : Nat) (w : World) : Calls Tryz.prog 57 #[.agg #[.int .i64 a.corr, .int .i64 a.kind, .string a.topic, .string a.group, .int .i64 a.part, .int .i64 a.parts, .int .i64 a.first, .int .i64 a.off, .int .i64 a.most, .int .i64 a.time, .int .i64 a.bat.time, .int .i64 a.bat.prod, .int .i64 a.bat.seq, .slice A n c]] w fun er w' => er = .returned (.agg #[.int .i64 a.kind, .string a.topic, .string a.group, .int .i64 a.part, .int .i64 a.parts, .int .i64 a.first, .int .i64 a.off, .int .i64 a.bat.time, .int .i64 a.bat.prod, .int .i64 a.bat.seq, .slice A n c]) ∧ Below w.heap.size w w' := by
  have hbk := Bk.made w 32 #[.int .i64 a.corr, .int .i64 a.kind, .string a.topic, .string a.group, .int .i64 a.part, .int .i64 a.parts, .int .i64 a.first, .int .i64 a.off, .int .i64 a.most, .int .i64 a.time, .int .i64 a.bat.time, .int .i64 a.bat.prod, .int .i64 a.bat.seq, .slice A n c]
  have hlb := ldB_of_ask (hbk.alloc (.cells #[.int .i64 0, .string ⟨#[]⟩, .string ⟨#[]⟩, .int .i64 0, .int .i64 0, .int .i64 0, .int .i64 0, .int .i64 0, .int .i64 0, .int .i64 0, .slice none 0 0] 121))
  have hst := stE_newAt (w.alloc (.cells #[.int .i64 a.corr, .int .i64 a.kind, .string a.topic, .string a.group, .int .i64 a.part, .int .i64 a.parts, .int .i64 a.first, .int .i64 a.off, .int .i64 a.most, .int .i64 a.time, .int .i64 a.bat.time, .int .i64 a.bat.prod, .int .i64 a.bat.seq, .slice A n c] 32)) (w.heap.size + 1) (by simp) a.kind a.topic a.group a.part a.parts a.first a.off a.bat.time a.bat.prod a.bat.seq A n c #[.int .i64 0, .string ⟨#[]⟩, .string ⟨#[]⟩, .int .i64 0, .int .i64 0, .int .i64 0, .int .i64 0, .int .i64 0, .int .i64 0, .int .i64 0, .slice none 0 0] rfl
  have HB := Lib.hid (below_two w (.cells #[.int .i64 a.corr, .int .i64 a.kind, .string a.topic, .string a.group, .int .i64 a.part, .int .i64 a.parts, .int .i64 a.first, .int .i64 a.off, .int .i64 a.most, .int .i64 a.time, .int .i64 a.bat.time, .int .i64 a.bat.prod, .int .i64 a.bat.seq, .slice A n c] 32) (.cells #[.int .i64 a.kind, .string a.topic, .string a.group, .int .i64 a.part, .int .i64 a.parts, .int .i64 a.first, .int .i64 a.off, .int .i64 a.bat.time, .int .i64 a.bat.prod, .int .i64 a.bat.seq, .slice A n c] 121))
  have HK := Lib.hid (Bk.made_at (w.alloc (.cells #[.int .i64 a.corr, .int .i64 a.kind, .string a.topic, .string a.group, .int .i64 a.part, .int .i64 a.parts, .int .i64 a.first, .int .i64 a.off, .int .i64 a.most, .int .i64 a.time, .int .i64 a.bat.time, .int .i64 a.bat.prod, .int .i64 a.bat.seq, .slice A n c] 32)) (w.heap.size + 1) 121 #[.int .i64 a.kind, .string a.topic, .string a.group, .int .i64 a.part, .int .i64 a.parts, .int .i64 a.first, .int .i64 a.off, .int .i64 a.bat.time, .int .i64 a.bat.prod, .int .i64 a.bat.seq, .slice A n c] (by simp))
  clear hbk
  go_enter Tryz.func57, Tryz.ntmps57
  go_wp2_with fail
  exact bodyPost_ret (results_cell_row rfl _ _ (w.heap.size + 1) _ _ (0, 0) _ rfl HK.out Tryz.underlying121 rfl size_e) rfl ⟨rfl, HB.out⟩
set_option maxRecDepth 100000 in
set_option maxHeartbeats 4000000 in
theorem bare_any (a : Ask) (A : Option Addr) (n c : Nat) (w : World) (hr : RdT w A n c a.bat.vals) (r : Bool) (hre : bareA a = r) : Calls Tryz.prog 135 #[.agg #[.int .i64 a.corr, .int .i64 a.kind, .string a.topic, .string a.group, .int .i64 a.part, .int .i64 a.parts, .int .i64 a.first, .int .i64 a.off, .int .i64 a.most, .int .i64 a.time, .int .i64 a.bat.time, .int .i64 a.bat.prod, .int .i64 a.bat.seq, .slice A n c]] w fun er w' => er = .returned (.bool r) ∧ Below w.heap.size w w' := by
  have hbk := Bk.made w 32 #[.int .i64 a.corr, .int .i64 a.kind, .string a.topic, .string a.group, .int .i64 a.part, .int .i64 a.parts, .int .i64 a.first, .int .i64 a.off, .int .i64 a.most, .int .i64 a.time, .int .i64 a.bat.time, .int .i64 a.bat.prod, .int .i64 a.bat.seq, .slice A n c]
  have hlb := ldB_of_ask hbk
  have hst := stB_newAt (w.alloc (.cells #[.int .i64 a.corr, .int .i64 a.kind, .string a.topic, .string a.group, .int .i64 a.part, .int .i64 a.parts, .int .i64 a.first, .int .i64 a.off, .int .i64 a.most, .int .i64 a.time, .int .i64 a.bat.time, .int .i64 a.bat.prod, .int .i64 a.bat.seq, .slice A n c] 32)) (w.heap.size + 1) (by simp) a.bat.time a.bat.prod a.bat.seq A n c #[.int .i64 0, .int .i64 0, .int .i64 0, .slice none 0 0] rfl
  have HB := Lib.hid (below_two w (.cells #[.int .i64 a.corr, .int .i64 a.kind, .string a.topic, .string a.group, .int .i64 a.part, .int .i64 a.parts, .int .i64 a.first, .int .i64 a.off, .int .i64 a.most, .int .i64 a.time, .int .i64 a.bat.time, .int .i64 a.bat.prod, .int .i64 a.bat.seq, .slice A n c] 32) (.cells #[.int .i64 a.bat.time, .int .i64 a.bat.prod, .int .i64 a.bat.seq, .slice A n c] 30))
  have HL := Lib.hid hr.len
  have Hre := Lib.hid hre
  clear hbk hr hre
  by_cases h0 : a.parts = 0
  · have q0 : (a.parts == 0) = true := by simp [h0]
    have H0 := Lib.hid h0
    clear h0
    by_cases h1 : a.first = 0
    · have q1 : (a.first == 0) = true := by simp [h1]
      have H1 := Lib.hid h1
      clear h1
      by_cases h2 : a.bat.time = 0
      · have q2 : (a.bat.time == 0) = true := by simp [h2]
        have H2 := Lib.hid h2
        clear h2
        by_cases h3 : a.bat.prod = 0
        · have q3 : (a.bat.prod == 0) = true := by simp [h3]
          have H3 := Lib.hid h3
          clear h3
          by_cases h4 : a.bat.seq = 0
          · have q4 : (a.bat.seq == 0) = true := by simp [h4]
            have H4 := Lib.hid h4
            clear h4
            by_cases h5 : n = 0
            · subst h5
              have H5 : Hid (a.bat.vals = []) := List.eq_nil_of_length_eq_zero HL.out
              go_enter Tryz.func135, Tryz.ntmps135
              go_wp2_with fail
              go_ret
              exact ⟨ret_bool (by rw [← Hre.out]; unfold bareA; simp [H0.out, H1.out, H2.out, H3.out, H4.out, H5.out]), HB.out⟩
            · have q5 : ((n : Int) == 0) = false := by simp [h5]
              have H5 : Hid (¬ a.bat.vals = []) := fun e => h5 (by have := HL.out; rw [e] at this; exact this.symm)
              clear h5
              go_enter Tryz.func135, Tryz.ntmps135
              go_wp2_with fail
              go_ret
              exact ⟨ret_bool (by rw [← Hre.out]; unfold bareA; simp [H0.out, H1.out, H2.out, H3.out, H4.out, H5.out]), HB.out⟩
          · have q4 : (a.bat.seq == 0) = false := by simp [h4]
            have H4 := Lib.hid h4
            clear h4
            go_enter Tryz.func135, Tryz.ntmps135
            go_wp2_with fail
            go_ret
            exact ⟨ret_bool (by rw [← Hre.out]; unfold bareA; simp [H0.out, H1.out, H2.out, H3.out, H4.out]), HB.out⟩
        · have q3 : (a.bat.prod == 0) = false := by simp [h3]
          have H3 := Lib.hid h3
          clear h3
          go_enter Tryz.func135, Tryz.ntmps135
          go_wp2_with fail
          go_ret
          exact ⟨ret_bool (by rw [← Hre.out]; unfold bareA; simp [H0.out, H1.out, H2.out, H3.out]), HB.out⟩
      · have q2 : (a.bat.time == 0) = false := by simp [h2]
        have H2 := Lib.hid h2
        clear h2
        go_enter Tryz.func135, Tryz.ntmps135
        go_wp2_with fail
        go_ret
        exact ⟨ret_bool (by rw [← Hre.out]; unfold bareA; simp [H0.out, H1.out, H2.out]), HB.out⟩
    · have q1 : (a.first == 0) = false := by simp [h1]
      have H1 := Lib.hid h1
      clear h1
      go_enter Tryz.func135, Tryz.ntmps135
      go_wp2_with fail
      go_ret
      exact ⟨ret_bool (by rw [← Hre.out]; unfold bareA; simp [H0.out, H1.out]), HB.out⟩
  · have q0 : (a.parts == 0) = false := by simp [h0]
    have H0 := Lib.hid h0
    clear h0
    go_enter Tryz.func135, Tryz.ntmps135
    go_wp2_with fail
    go_ret
    exact ⟨ret_bool (by rw [← Hre.out]; unfold bareA; simp [H0.out]), HB.out⟩
end Go.Proofs.YtkdlofgfkfhofaaGreatDoor

/-
  ask: made.
-/
namespace Go.Proofs.YtkdlofgfkfhofaaGreatDoor
open Go.RowKit
attribute [local go_sem ↓] ldB_eq stB_eq ldA_eq stA_eq sliced_past
attribute [local go_sem] pastA_zero pastA_some

def zA : Array Value := #[.int .i64 0, .int .i64 0, .string ⟨#[]⟩, .string ⟨#[]⟩, .int .i64 0, .int .i64 0, .int .i64 0, .int .i64 0, .int .i64 0, .int .i64 0, .int .i64 0, .int .i64 0, .int .i64 0, .slice none 0 0]
theorem two_ask (w : World) (co k : Int) (t g : ByteArray) (p1 p2 p3 p4 p5 p6 p7 p8 p9 : Int) (A : Option Addr) (n c : Nat) :
    Bk ((w.alloc (.cells zA 32)).alloc (.cells #[.int .i64 co, .int .i64 k, .string t, .string g, .int .i64 p1, .int .i64 p2, .int .i64 p3, .int .i64 p4, .int .i64 p5, .int .i64 p6, .int .i64 p7, .int .i64 p8, .int .i64 p9, .slice A n c] 32)) w.heap.size 32 zA ∧
    Bk ((w.alloc (.cells zA 32)).alloc (.cells #[.int .i64 co, .int .i64 k, .string t, .string g, .int .i64 p1, .int .i64 p2, .int .i64 p3, .int .i64 p4, .int .i64 p5, .int .i64 p6, .int .i64 p7, .int .i64 p8, .int .i64 p9, .slice A n c] 32)) (w.heap.size + 1) 32 #[.int .i64 co, .int .i64 k, .string t, .string g, .int .i64 p1, .int .i64 p2, .int .i64 p3, .int .i64 p4, .int .i64 p5, .int .i64 p6, .int .i64 p7, .int .i64 p8, .int .i64 p9, .slice A n c] :=
  ⟨(Bk.made w _ _).alloc _, Bk.made_at _ _ _ _ (by simp)⟩
set_option maxRecDepth 100000 in
set_option maxHeartbeats 4000000 in
theorem amade_6 (A : Option Addr) (n c : Nat) (w : World) :
    Calls Tryz.prog 80 #[.int .i64 6, .slice A n c] w fun e w' => e = .returned (.agg #[.int .i64 0, .int .i64 6, .string ⟨#[]⟩, .string ⟨#[]⟩, .int .i64 0, .int .i64 0, .int .i64 0, .int .i64 0, .int .i64 0, .int .i64 0, .int .i64 0, .int .i64 0, .int .i64 0, .slice none 0 0]) ∧ Below w.heap.size w w' := by
  have hst0 := stA_newAt (w.alloc (.cells zA 32)) (w.heap.size + 1) (by simp) 0 6 ⟨#[]⟩ ⟨#[]⟩ 0 0 0 0 0 0 0 0 0 none 0 0 zA rfl
  have hld := ldA_bk (((two_ask w 0 6 ⟨#[]⟩ ⟨#[]⟩ 0 0 0 0 0 0 0 0 0 none 0 0).2))
  have hst := stA_row (((two_ask w 0 6 ⟨#[]⟩ ⟨#[]⟩ 0 0 0 0 0 0 0 0 0 none 0 0).1)) rfl 0 6 ⟨#[]⟩ ⟨#[]⟩ 0 0 0 0 0 0 0 0 0 none 0 0
  have hbk := Lib.hid (((two_ask w 0 6 ⟨#[]⟩ ⟨#[]⟩ 0 0 0 0 0 0 0 0 0 none 0 0).1))
  have hbl := Lib.hid (show Below w.heap.size w _ from below_row (below_two w (.cells zA 32) (.cells #[.int .i64 0, .int .i64 6, .string ⟨#[]⟩, .string ⟨#[]⟩, .int .i64 0, .int .i64 0, .int .i64 0, .int .i64 0, .int .i64 0, .int .i64 0, .int .i64 0, .int .i64 0, .int .i64 0, .slice none 0 0] 32)) (Nat.le_trans (Nat.le_refl _) (Below.size (below_two w (.cells zA 32) (.cells #[.int .i64 0, .int .i64 6, .string ⟨#[]⟩, .string ⟨#[]⟩, .int .i64 0, .int .i64 0, .int .i64 0, .int .i64 0, .int .i64 0, .int .i64 0, .int .i64 0, .int .i64 0, .int .i64 0, .slice none 0 0] 32)))) (Nat.le_refl _) #[.int .i64 0, .int .i64 6, .string ⟨#[]⟩, .string ⟨#[]⟩, .int .i64 0, .int .i64 0, .int .i64 0, .int .i64 0, .int .i64 0, .int .i64 0, .int .i64 0, .int .i64 0, .int .i64 0, .slice none 0 0])
  simp only [zA] at hst0 hld hst hbl
  go_enter Tryz.func80, Tryz.ntmps80
  go_wp2_with fail
  all_goals exact bodyPost_ret (results_cell_row rfl _ _ w.heap.size _ _ (0, 0) _ rfl (Bk.row hbk.out _) Tryz.underlying32 rfl size_a) rfl ⟨rfl, hbl.out⟩
set_option maxRecDepth 100000 in
set_option maxHeartbeats 4000000 in
theorem amade_7 (gv c : Nat) (m0 m1 m2 m3 : MVal) (w : World) (_hc : 4 ≤ c) (_hc' : c ≤ 9223372036854775807) (hg : gv < w.heap.size) (d0 : w.cell? ⟨gv, 1, none⟩ = some (.string m0.v.s)) (d1 : w.cell? ⟨gv, 3, none⟩ = some (.int .i64 m1.v.n)) (d2 : w.cell? ⟨gv, 6, none⟩ = some (.int .i64 m2.v.n)) (d3 : w.cell? ⟨gv, 9, none⟩ = some (.int .i64 m3.v.n)) :
    Calls Tryz.prog 80 #[.int .i64 7, .slice (some ⟨gv, 0, none⟩) 4 c] w fun e w' => e = .returned (.agg #[.int .i64 0, .int .i64 7, .string m0.v.s, .string ⟨#[]⟩, .int .i64 m1.v.n, .int .i64 0, .int .i64 0, .int .i64 m2.v.n, .int .i64 m3.v.n, .int .i64 0, .int .i64 0, .int .i64 0, .int .i64 0, .slice none 0 0]) ∧ Below w.heap.size w w' := by
  have hst0 := stA_newAt (w.alloc (.cells zA 32)) (w.heap.size + 1) (by simp) 0 7 ⟨#[]⟩ ⟨#[]⟩ 0 0 0 0 0 0 0 0 0 none 0 0 zA rfl
  have hld := ldA_bk (Bk.drawn1 ((two_ask w 0 7 m0.v.s ⟨#[]⟩ m1.v.n 0 0 m2.v.n m3.v.n 0 0 0 0 none 0 0).2))
  have hst := stA_row (Bk.drawn1 ((two_ask w 0 7 m0.v.s ⟨#[]⟩ m1.v.n 0 0 m2.v.n m3.v.n 0 0 0 0 none 0 0).1)) rfl 0 7 m0.v.s ⟨#[]⟩ m1.v.n 0 0 m2.v.n m3.v.n 0 0 0 0 none 0 0
  have hbk := Lib.hid (Bk.drawn1 ((two_ask w 0 7 m0.v.s ⟨#[]⟩ m1.v.n 0 0 m2.v.n m3.v.n 0 0 0 0 none 0 0).1))
  have hbl := Lib.hid (show Below w.heap.size w _ from below_row (below_drew1 (below_two w (.cells zA 32) (.cells #[.int .i64 0, .int .i64 7, .string m0.v.s, .string ⟨#[]⟩, .int .i64 m1.v.n, .int .i64 0, .int .i64 0, .int .i64 m2.v.n, .int .i64 m3.v.n, .int .i64 0, .int .i64 0, .int .i64 0, .int .i64 0, .slice none 0 0] 32))) (Nat.le_trans (Nat.le_refl _) (Below.size (below_drew1 (below_two w (.cells zA 32) (.cells #[.int .i64 0, .int .i64 7, .string m0.v.s, .string ⟨#[]⟩, .int .i64 m1.v.n, .int .i64 0, .int .i64 0, .int .i64 m2.v.n, .int .i64 m3.v.n, .int .i64 0, .int .i64 0, .int .i64 0, .int .i64 0, .slice none 0 0] 32))))) (Nat.le_refl _) #[.int .i64 0, .int .i64 7, .string m0.v.s, .string ⟨#[]⟩, .int .i64 m1.v.n, .int .i64 0, .int .i64 0, .int .i64 m2.v.n, .int .i64 m3.v.n, .int .i64 0, .int .i64 0, .int .i64 0, .int .i64 0, .slice none 0 0])
  simp only [zA] at hst0 hld hst hbl
  have FS : Hid (∀ w', Below w.heap.size w w' → (Below w.heap.size w w' ∧ w'.cell? ⟨gv, 1, none⟩ = some (.string m0.v.s) ∧ w'.cell? ⟨gv, 3, none⟩ = some (.int .i64 m1.v.n) ∧ w'.cell? ⟨gv, 6, none⟩ = some (.int .i64 m2.v.n) ∧ w'.cell? ⟨gv, 9, none⟩ = some (.int .i64 m3.v.n))) := fun w' hb => ⟨hb, (hb.cell (p := ⟨gv, 1, none⟩) hg).trans d0, (hb.cell (p := ⟨gv, 3, none⟩) hg).trans d1, (hb.cell (p := ⟨gv, 6, none⟩) hg).trans d2, (hb.cell (p := ⟨gv, 9, none⟩) hg).trans d3⟩
  clear d0 d1 d2 d3
  go_enter Tryz.func80, Tryz.ntmps80
  go_wp2_with fail
  go_region_held3 (fun w' => Below w.heap.size w w' ∧ w'.cell? ⟨gv, 1, none⟩ = some (.string m0.v.s) ∧ w'.cell? ⟨gv, 3, none⟩ = some (.int .i64 m1.v.n) ∧ w'.cell? ⟨gv, 6, none⟩ = some (.int .i64 m2.v.n) ∧ w'.cell? ⟨gv, 9, none⟩ = some (.int .i64 m3.v.n)) (first | exact FS.out _ (below_drew1 (below_two w _ _)) | exact FS.out _ (below_two w _ _)) (first | fail)
  all_goals (go_wp2_with fail)
  all_goals exact bodyPost_ret (results_cell_row rfl _ _ w.heap.size _ _ (0, 0) _ rfl (Bk.row hbk.out _) Tryz.underlying32 rfl size_a) rfl ⟨rfl, hbl.out⟩
set_option maxRecDepth 100000 in
set_option maxHeartbeats 4000000 in
theorem amade_8 (gv c : Nat) (m0 m1 m2 : MVal) (w : World) (_hc : 3 ≤ c) (_hc' : c ≤ 9223372036854775807) (hg : gv < w.heap.size) (d0 : w.cell? ⟨gv, 1, none⟩ = some (.string m0.v.s)) (d1 : w.cell? ⟨gv, 3, none⟩ = some (.int .i64 m1.v.n)) (d2 : w.cell? ⟨gv, 6, none⟩ = some (.int .i64 m2.v.n)) :
    Calls Tryz.prog 80 #[.int .i64 8, .slice (some ⟨gv, 0, none⟩) 3 c] w fun e w' => e = .returned (.agg #[.int .i64 0, .int .i64 8, .string m0.v.s, .string ⟨#[]⟩, .int .i64 m1.v.n, .int .i64 0, .int .i64 0, .int .i64 0, .int .i64 0, .int .i64 m2.v.n, .int .i64 0, .int .i64 0, .int .i64 0, .slice none 0 0]) ∧ Below w.heap.size w w' := by
  have hst0 := stA_newAt (w.alloc (.cells zA 32)) (w.heap.size + 1) (by simp) 0 8 ⟨#[]⟩ ⟨#[]⟩ 0 0 0 0 0 0 0 0 0 none 0 0 zA rfl
  have hld := ldA_bk (Bk.drawn1 ((two_ask w 0 8 m0.v.s ⟨#[]⟩ m1.v.n 0 0 0 0 m2.v.n 0 0 0 none 0 0).2))
  have hst := stA_row (Bk.drawn1 ((two_ask w 0 8 m0.v.s ⟨#[]⟩ m1.v.n 0 0 0 0 m2.v.n 0 0 0 none 0 0).1)) rfl 0 8 m0.v.s ⟨#[]⟩ m1.v.n 0 0 0 0 m2.v.n 0 0 0 none 0 0
  have hbk := Lib.hid (Bk.drawn1 ((two_ask w 0 8 m0.v.s ⟨#[]⟩ m1.v.n 0 0 0 0 m2.v.n 0 0 0 none 0 0).1))
  have hbl := Lib.hid (show Below w.heap.size w _ from below_row (below_drew1 (below_two w (.cells zA 32) (.cells #[.int .i64 0, .int .i64 8, .string m0.v.s, .string ⟨#[]⟩, .int .i64 m1.v.n, .int .i64 0, .int .i64 0, .int .i64 0, .int .i64 0, .int .i64 m2.v.n, .int .i64 0, .int .i64 0, .int .i64 0, .slice none 0 0] 32))) (Nat.le_trans (Nat.le_refl _) (Below.size (below_drew1 (below_two w (.cells zA 32) (.cells #[.int .i64 0, .int .i64 8, .string m0.v.s, .string ⟨#[]⟩, .int .i64 m1.v.n, .int .i64 0, .int .i64 0, .int .i64 0, .int .i64 0, .int .i64 m2.v.n, .int .i64 0, .int .i64 0, .int .i64 0, .slice none 0 0] 32))))) (Nat.le_refl _) #[.int .i64 0, .int .i64 8, .string m0.v.s, .string ⟨#[]⟩, .int .i64 m1.v.n, .int .i64 0, .int .i64 0, .int .i64 0, .int .i64 0, .int .i64 m2.v.n, .int .i64 0, .int .i64 0, .int .i64 0, .slice none 0 0])
  simp only [zA] at hst0 hld hst hbl
  have FS : Hid (∀ w', Below w.heap.size w w' → (Below w.heap.size w w' ∧ w'.cell? ⟨gv, 1, none⟩ = some (.string m0.v.s) ∧ w'.cell? ⟨gv, 3, none⟩ = some (.int .i64 m1.v.n) ∧ w'.cell? ⟨gv, 6, none⟩ = some (.int .i64 m2.v.n))) := fun w' hb => ⟨hb, (hb.cell (p := ⟨gv, 1, none⟩) hg).trans d0, (hb.cell (p := ⟨gv, 3, none⟩) hg).trans d1, (hb.cell (p := ⟨gv, 6, none⟩) hg).trans d2⟩
  clear d0 d1 d2
  go_enter Tryz.func80, Tryz.ntmps80
  go_wp2_with fail
  go_region_held3 (fun w' => Below w.heap.size w w' ∧ w'.cell? ⟨gv, 1, none⟩ = some (.string m0.v.s) ∧ w'.cell? ⟨gv, 3, none⟩ = some (.int .i64 m1.v.n) ∧ w'.cell? ⟨gv, 6, none⟩ = some (.int .i64 m2.v.n)) (first | exact FS.out _ (below_drew1 (below_two w _ _)) | exact FS.out _ (below_two w _ _)) (first | fail)
  all_goals (go_wp2_with fail)
  all_goals exact bodyPost_ret (results_cell_row rfl _ _ w.heap.size _ _ (0, 0) _ rfl (Bk.row hbk.out _) Tryz.underlying32 rfl size_a) rfl ⟨rfl, hbl.out⟩
set_option maxRecDepth 100000 in
set_option maxHeartbeats 4000000 in
theorem amade_9 (gv c : Nat) (m0 m1 m2 : MVal) (w : World) (_hc : 3 ≤ c) (_hc' : c ≤ 9223372036854775807) (hg : gv < w.heap.size) (d0 : w.cell? ⟨gv, 1, none⟩ = some (.string m0.v.s)) (d1 : w.cell? ⟨gv, 4, none⟩ = some (.string m1.v.s)) (d2 : w.cell? ⟨gv, 6, none⟩ = some (.int .i64 m2.v.n)) :
    Calls Tryz.prog 80 #[.int .i64 9, .slice (some ⟨gv, 0, none⟩) 3 c] w fun e w' => e = .returned (.agg #[.int .i64 0, .int .i64 9, .string m1.v.s, .string m0.v.s, .int .i64 m2.v.n, .int .i64 0, .int .i64 0, .int .i64 0, .int .i64 0, .int .i64 0, .int .i64 0, .int .i64 0, .int .i64 0, .slice none 0 0]) ∧ Below w.heap.size w w' := by
  have hst0 := stA_newAt (w.alloc (.cells zA 32)) (w.heap.size + 1) (by simp) 0 9 ⟨#[]⟩ ⟨#[]⟩ 0 0 0 0 0 0 0 0 0 none 0 0 zA rfl
  have hld := ldA_bk (Bk.drawn1 ((two_ask w 0 9 m1.v.s m0.v.s m2.v.n 0 0 0 0 0 0 0 0 none 0 0).2))
  have hst := stA_row (Bk.drawn1 ((two_ask w 0 9 m1.v.s m0.v.s m2.v.n 0 0 0 0 0 0 0 0 none 0 0).1)) rfl 0 9 m1.v.s m0.v.s m2.v.n 0 0 0 0 0 0 0 0 none 0 0
  have hbk := Lib.hid (Bk.drawn1 ((two_ask w 0 9 m1.v.s m0.v.s m2.v.n 0 0 0 0 0 0 0 0 none 0 0).1))
  have hbl := Lib.hid (show Below w.heap.size w _ from below_row (below_drew1 (below_two w (.cells zA 32) (.cells #[.int .i64 0, .int .i64 9, .string m1.v.s, .string m0.v.s, .int .i64 m2.v.n, .int .i64 0, .int .i64 0, .int .i64 0, .int .i64 0, .int .i64 0, .int .i64 0, .int .i64 0, .int .i64 0, .slice none 0 0] 32))) (Nat.le_trans (Nat.le_refl _) (Below.size (below_drew1 (below_two w (.cells zA 32) (.cells #[.int .i64 0, .int .i64 9, .string m1.v.s, .string m0.v.s, .int .i64 m2.v.n, .int .i64 0, .int .i64 0, .int .i64 0, .int .i64 0, .int .i64 0, .int .i64 0, .int .i64 0, .int .i64 0, .slice none 0 0] 32))))) (Nat.le_refl _) #[.int .i64 0, .int .i64 9, .string m1.v.s, .string m0.v.s, .int .i64 m2.v.n, .int .i64 0, .int .i64 0, .int .i64 0, .int .i64 0, .int .i64 0, .int .i64 0, .int .i64 0, .int .i64 0, .slice none 0 0])
  simp only [zA] at hst0 hld hst hbl
  have FS : Hid (∀ w', Below w.heap.size w w' → (Below w.heap.size w w' ∧ w'.cell? ⟨gv, 1, none⟩ = some (.string m0.v.s) ∧ w'.cell? ⟨gv, 4, none⟩ = some (.string m1.v.s) ∧ w'.cell? ⟨gv, 6, none⟩ = some (.int .i64 m2.v.n))) := fun w' hb => ⟨hb, (hb.cell (p := ⟨gv, 1, none⟩) hg).trans d0, (hb.cell (p := ⟨gv, 4, none⟩) hg).trans d1, (hb.cell (p := ⟨gv, 6, none⟩) hg).trans d2⟩
  clear d0 d1 d2
  go_enter Tryz.func80, Tryz.ntmps80
  go_wp2_with fail
  go_region_held3 (fun w' => Below w.heap.size w w' ∧ w'.cell? ⟨gv, 1, none⟩ = some (.string m0.v.s) ∧ w'.cell? ⟨gv, 4, none⟩ = some (.string m1.v.s) ∧ w'.cell? ⟨gv, 6, none⟩ = some (.int .i64 m2.v.n)) (first | exact FS.out _ (below_drew1 (below_two w _ _)) | exact FS.out _ (below_two w _ _)) (first | fail)
  all_goals (go_wp2_with fail)
  all_goals exact bodyPost_ret (results_cell_row rfl _ _ w.heap.size _ _ (0, 0) _ rfl (Bk.row hbk.out _) Tryz.underlying32 rfl size_a) rfl ⟨rfl, hbl.out⟩
theorem amade_any (k : Int) (hk : readK k = true) (A : Option Addr) (n c : Nat) (ms : List MVal) (w : World) (h : RdV w A n c ms) (hok : okAll (fldsA k) (vsOf ms) = true) :
    Calls Tryz.prog 80 #[.int .i64 k, .slice A n c] w fun e w' => ∃ x : Ask, e = .returned (.agg #[.int .i64 x.corr, .int .i64 x.kind, .string x.topic, .string x.group, .int .i64 x.part, .int .i64 x.parts, .int .i64 x.first, .int .i64 x.off, .int .i64 x.most, .int .i64 x.time, .int .i64 x.bat.time, .int .i64 x.bat.prod, .int .i64 x.bat.seq, .slice none 0 0]) ∧ x = madeA k (vsOf ms) ∧ x.bat.vals = [] ∧ Below w.heap.size w w' := by
  have hlen := h.rows.len
  rw [List.length_map] at hlen
  have hl2 : ms.length = (fldsA k).length := by
    have h1 := hok
    unfold okAll at h1
    rw [Bool.and_eq_true, decide_eq_true_iff] at h1
    have := h1.1
    unfold vsOf at this
    rw [List.length_map] at this
    exact this
  have hcap := h.rows.cap
  have hbig := h.rows.big
  rcases read_cases hk with rfl | rfl | rfl | rfl
  · refine (amade_6 A n c w).mono ?_
    rintro e w' ⟨rfl, hb⟩
    exact ⟨⟨0, 6, nul, nul, 0, 0, 0, 0, 0, 0, noB⟩, rfl, rfl, rfl, hb⟩
  · have hl3 : ms.length = 4 := hl2
    obtain rfl : n = 4 := by omega
    obtain ⟨gv, rfl, hg, hc⟩ := h.cellAt (by omega)
    match ms, hl3 with
    | [m0, m1, m2, m3], _ =>
      refine (amade_7 gv c m0 m1 m2 m3 w hcap hbig hg (hc 0 m0 1 _ rfl rfl) (hc 1 m1 0 _ rfl rfl) (hc 2 m2 0 _ rfl rfl) (hc 3 m3 0 _ rfl rfl)).mono ?_
      rintro e w' ⟨rfl, hb⟩
      exact ⟨⟨0, 7, m0.v.s, nul, m1.v.n, 0, 0, m2.v.n, m3.v.n, 0, noB⟩, rfl, rfl, rfl, hb⟩
  · have hl3 : ms.length = 3 := hl2
    obtain rfl : n = 3 := by omega
    obtain ⟨gv, rfl, hg, hc⟩ := h.cellAt (by omega)
    match ms, hl3 with
    | [m0, m1, m2], _ =>
      refine (amade_8 gv c m0 m1 m2 w hcap hbig hg (hc 0 m0 1 _ rfl rfl) (hc 1 m1 0 _ rfl rfl) (hc 2 m2 0 _ rfl rfl)).mono ?_
      rintro e w' ⟨rfl, hb⟩
      exact ⟨⟨0, 8, m0.v.s, nul, m1.v.n, 0, 0, 0, 0, m2.v.n, noB⟩, rfl, rfl, rfl, hb⟩
  · have hl3 : ms.length = 3 := hl2
    obtain rfl : n = 3 := by omega
    obtain ⟨gv, rfl, hg, hc⟩ := h.cellAt (by omega)
    match ms, hl3 with
    | [m0, m1, m2], _ =>
      refine (amade_9 gv c m0 m1 m2 w hcap hbig hg (hc 0 m0 1 _ rfl rfl) (hc 1 m1 1 _ rfl rfl) (hc 2 m2 0 _ rfl rfl)).mono ?_
      rintro e w' ⟨rfl, hb⟩
      exact ⟨⟨0, 9, m1.v.s, m0.v.s, m2.v.n, 0, 0, 0, 0, 0, noB⟩, rfl, rfl, rfl, hb⟩
end Go.Proofs.YtkdlofgfkfhofaaGreatDoor

/-
  ask: blocks of asks; plain facts for reads.
-/
namespace Go.Proofs.YtkdlofgfkfhofaaGreatDoor
open Go.RowKit

def isA (w : World) (g : Nat) : Prop := ∃ old : Array Value, Bk w g 32 old ∧ old.size = 14
theorem isA.lt {w : World} {g : Nat} (h : isA w g) : g < w.heap.size := by
  obtain ⟨old, h1, _⟩ := h
  exact h1.lt
theorem isA_drew (w : World) (g : Nat) : isA w.drew g ↔ isA w g := Iff.rfl
theorem isA.ext {w w' : World} {g : Nat} (h : isA w g) (hb : Below w.heap.size w w') : isA w' g := by
  obtain ⟨old, h1, h2⟩ := h
  exact ⟨old, h1.ext hb, h2⟩
theorem isA.alloc {w : World} {g : Nat} (h : isA w g) (o : Obj) : isA (w.alloc o) g := by
  obtain ⟨old, h1, h2⟩ := h
  exact ⟨old, h1.alloc o, h2⟩
theorem isA.setBk {w : World} {g : Nat} (h : isA w g) (r : Array Value) : Bk (w.setRow g r) g 32 r := by
  obtain ⟨old, h1, h2⟩ := h
  exact h1.row r
theorem isA_alloc (w : World) (G : Nat) : isA (w.alloc (.cells #[.int .i64 0, .int .i64 0, .string ⟨#[]⟩, .string ⟨#[]⟩, .int .i64 0, .int .i64 0, .int .i64 0, .int .i64 0, .int .i64 0, .int .i64 0, .int .i64 0, .int .i64 0, .int .i64 0, .slice none 0 0] 32)) G ↔ isA w G ∨ G = w.heap.size := by
  constructor
  · intro h
    by_cases hg : G < w.heap.size
    · obtain ⟨old, h1, h2⟩ := h
      exact .inl ⟨old, (Below.heap_alloc w _ G hg).symm.trans h1, h2⟩
    · have := h.lt
      simp at this
      exact .inr (by omega)
  · rintro (h | rfl)
    · exact h.alloc _
    · exact ⟨_, Bk.made w _ _, rfl⟩
/-- what stA does, under another name -/
def stA0 (v u : Value) : Sem Unit := stA v u
theorem stA_if (w : World) (G : Nat) (co k : Int) (t g : ByteArray) (p1 p2 p3 p4 p5 p6 p7 p8 p9 : Int) (A : Option Addr) (n c : Nat) :
    (stA (.pointer (some ⟨G, 0, none⟩)) (.agg #[.int .i64 co, .int .i64 k, .string t, .string g, .int .i64 p1, .int .i64 p2, .int .i64 p3, .int .i64 p4, .int .i64 p5, .int .i64 p6, .int .i64 p7, .int .i64 p8, .int .i64 p9, .slice A n c])).run Tryz.prog w = @ite _ (isA w G) (Classical.propDecidable _) (.ok () (w.setRow G #[.int .i64 co, .int .i64 k, .string t, .string g, .int .i64 p1, .int .i64 p2, .int .i64 p3, .int .i64 p4, .int .i64 p5, .int .i64 p6, .int .i64 p7, .int .i64 p8, .int .i64 p9, .slice A n c])) ((stA0 (.pointer (some ⟨G, 0, none⟩)) (.agg #[.int .i64 co, .int .i64 k, .string t, .string g, .int .i64 p1, .int .i64 p2, .int .i64 p3, .int .i64 p4, .int .i64 p5, .int .i64 p6, .int .i64 p7, .int .i64 p8, .int .i64 p9, .slice A n c])).run Tryz.prog w) := by
  split
  · rename_i h
    obtain ⟨old, h1, h2⟩ := h
    exact stA_row h1 h2 co k t g p1 p2 p3 p4 p5 p6 p7 p8 p9 A n c
  · rfl
theorem fldsA_some (k : Int) : ∀ f ∈ fldsA k, f ∈ someF := by
  intro f hf
  have n1 : nameF ∈ someF := .head _
  have q1 : partF ∈ someF := .tail _ (.tail _ (.tail _ (.head _)))
  have o1 : offF ∈ someF := .tail _ (.tail _ (.tail _ (.tail _ (.head _))))
  have t1 : timeF ∈ someF := .tail _ (.tail _ (.tail _ (.tail _ (.tail _ (.head _)))))
  have m1 : mostF ∈ someF := .tail _ (.tail _ (.tail _ (.tail _ (.tail _ (.tail _ (.head _))))))
  unfold fldsA at hf
  split at hf
  · simp only [List.mem_cons, List.not_mem_nil, or_false] at hf
    rcases hf with rfl | rfl | rfl | rfl <;> assumption
  · split at hf
    · simp only [List.mem_cons, List.not_mem_nil, or_false] at hf
      rcases hf with rfl | rfl | rfl <;> assumption
    · split at hf
      · simp only [List.mem_cons, List.not_mem_nil, or_false] at hf
        rcases hf with rfl | rfl | rfl <;> assumption
      · cases hf
theorem topicA_le {a : Ask} (hk : readK a.kind = true) (h1 : okAll (fldsA a.kind) (valsA a) = true) : (a.kind ≠ 6 → a.topic.size ≤ 24) ∧ (a.kind = 9 → a.group.size ≤ 24) := by
  rcases read_cases hk with k | k | k | k
  · exact ⟨fun h => absurd k h, by omega⟩
  · have e1 : valsA a = [sV a.topic, nV a.part, nV a.off, nV a.most] := by unfold valsA; rw [k]; rfl
    rw [k, e1] at h1
    obtain ⟨_, a2, _⟩ := str_le (f := nameF) (fs := [partF, offF, mostF]) rfl h1
    have a2 : (a.topic.size : Int) ≤ 24 := a2
    exact ⟨by omega, by omega⟩
  · have e1 : valsA a = [sV a.topic, nV a.part, nV a.time] := by unfold valsA; rw [k]; rfl
    rw [k, e1] at h1
    obtain ⟨_, a2, _⟩ := str_le (f := nameF) (fs := [partF, timeF]) rfl h1
    have a2 : (a.topic.size : Int) ≤ 24 := a2
    exact ⟨by omega, by omega⟩
  · have e1 : valsA a = [sV a.group, sV a.topic, nV a.part] := by unfold valsA; rw [k]; rfl
    rw [k, e1] at h1
    obtain ⟨_, a2, h1⟩ := str_le (f := nameF) (fs := [nameF, partF]) rfl h1
    have a2 : (a.group.size : Int) ≤ 24 := a2
    obtain ⟨_, a3, h1⟩ := str_le rfl h1
    have a3 : (a.topic.size : Int) ≤ 24 := a3
    exact ⟨by omega, by omega⟩
theorem readsA_is {a : Ask} (h1 : readK a.kind = true) (h2 : okAll (fldsA a.kind) (valsA a) = true) (h3 : bareA a = true) {x : Ask} (hx : x = madeA a.kind (valsA a)) : readsA a = (sameA x a && ((decide (a.kind = 6) || nameOk a.topic) && (decide (a.kind ≠ 9) || nameOk a.group))) := by
  subst hx
  unfold readsA
  rw [h1, h2, h3]
  rfl
end Go.Proofs.YtkdlofgfkfhofaaGreatDoor
