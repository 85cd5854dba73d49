import Derived.Test.YtkdlofgfkfhofaaGreatDoorP22
import Derived.Laws.Tables
/-
  batch: fields, put, Right, Put.
-/
namespace Go.Proofs.YtkdlofgfkfhofaaGreatDoor
open Go.RowKit
attribute [local go_sem ↓] ldF_eq ldV_eq

/-- Put's two results -/
def PutR (fs : List Fld) (vs : List Val) (B : Nat) (w' : World) (A : Option Addr) (M c : Nat) (v : Value) : Prop :=
  (okAll fs vs = true ∧ v = .nilIface ∧ OwnB w' B (.slice A M c) (bytesAll fs vs)) ∨ (okAll fs vs = false ∧ Value.slice A M c = .slice none 0 0 ∧ ∃ k, IsErr 1 v k)
theorem IsErr.ne_nil {d : Nat} {v : Value} {k : Int} (h : IsErr d v k) (w : World) : (binOp .eql 52 v .nilIface).run Tryz.prog w = .ok (.bool false) w := by
  cases h with
  | no k => kernel_rfl
  | flt d op at_ v k h => kernel_rfl
theorem PutR.nil {fs : List Fld} {vs : List Val} {B : Nat} {w' : World} {A : Option Addr} {M c : Nat} {v : Value} (h : PutR fs vs B w' A M c v) (w : World) : (binOp .eql 52 v .nilIface).run Tryz.prog w = .ok (.bool (okAll fs vs)) w := by
  rcases h with ⟨h1, rfl, _⟩ | ⟨h1, _, k, hk⟩
  · rw [h1]; kernel_rfl
  · rw [h1]; exact hk.ne_nil w
theorem IsErr.guard {d : Nat} {v : Value} {k : Int} (h : IsErr d v k) (x : Tmp) (w : World) : (eqGuard .eql 52 (.tmp x) (.const .nilIface) v .nilIface).run Tryz.prog w = .ok () w := by
  cases h with
  | no k => kernel_rfl
  | flt d op at_ v k h => kernel_rfl
theorem PutR.guard {fs : List Fld} {vs : List Val} {B : Nat} {w' : World} {A : Option Addr} {M c : Nat} {v : Value} (h : PutR fs vs B w' A M c v) (x : Tmp) (w : World) : (eqGuard .eql 52 (.tmp x) (.const .nilIface) v .nilIface).run Tryz.prog w = .ok () w := by
  rcases h with ⟨h1, rfl, _⟩ | ⟨h1, _, k, hk⟩
  · kernel_rfl
  · exact hk.guard x w
theorem PutR.more {fs : List Fld} {vs : List Val} {B B' : Nat} {w' : World} {A : Option Addr} {M c : Nat} {v : Value} (h : PutR fs vs B' w' A M c v) (hB : B ≤ B') : PutR fs vs B w' A M c v :=
  h.imp (fun ⟨a, b, d⟩ => ⟨a, b, d.more hB⟩) id
theorem fput_r (A : Option Addr) (n c : Nat) (fs : List Fld) (Av : Option Addr) (nv cv : Nat) (ms : List MVal) (w : World) (hf : ∀ f ∈ fs, f ∈ someF) (h : RdF w A n c fs) (hv : RdV w Av nv cv ms) (hn : n ≤ 100) (w0 : World) (B : Nat) (hb : Below B w0 w) (hB : B ≤ w.heap.size) :
    Calls Tryz.prog 59 #[.slice A n c, .slice Av nv cv] w fun e w' => ∃ A' M c' v, e = .returned (.tuple #[.slice A' M c', v]) ∧ PutR fs (vsOf ms) B w' A' M c' v ∧ Below B w0 w' := by
  refine (fput_any A n c fs Av nv cv ms w hf h hv hn).mono ?_
  rintro e w' ⟨⟨h1, A', M, c', rfl, ho⟩ | ⟨h1, v, k, rfl, he⟩, hb'⟩
  · exact ⟨A', M, c', _, rfl, .inl ⟨h1, rfl, ho.more hB⟩, hb.trans (below_le hB hb')⟩
  · exact ⟨none, 0, 0, v, rfl, .inr ⟨h1, rfl, k, he⟩, hb.trans (below_le hB hb')⟩
theorem f5 : ∀ x : Fld, x.cells.length = 5 := fun _ => rfl
theorem m3 : ∀ x : MVal, x.cells.length = 3 := fun _ => rfl
theorem bat_some : ∀ f ∈ batF, f ∈ someF := by
  intro f hf
  unfold batF at hf
  unfold someF
  simp only [List.mem_cons, List.not_mem_nil, or_false] at hf ⊢
  rcases hf with rfl | rfl | rfl | rfl
  · exact .inr (.inr (.inr (.inr (.inr (.inl rfl)))))
  · exact .inr (.inr (.inr (.inr (.inr (.inr (.inl rfl))))))
  · exact .inr (.inr (.inr (.inr (.inr (.inr (.inr (.inl rfl)))))))
  · exact .inr (.inr (.inr (.inr (.inr (.inr (.inr (.inr (.inl rfl))))))))
set_option maxRecDepth 100000 in
set_option maxHeartbeats 1000000 in
theorem bfields_any (w w0 : World) (B : Nat) (hb : Below B w0 w) (hB : B ≤ w.heap.size) :
    Calls Tryz.prog 227 #[] w fun e w' => ∃ g, e = .returned (.slice (some ⟨g, 0, none⟩) 4 4) ∧ RdF w' (some ⟨g, 0, none⟩) 4 4 batF ∧ Below B w0 w' ∧ B ≤ w'.heap.size ∧ Below w.heap.size w w' := by
  go_enter Tryz.func227, Tryz.ntmps227
  go_wp2
  go_ret
  exact ⟨_, rfl, RdK.of_bk (Bk.made w _ _) Fld.cells f5 batF rfl 4 4 rfl (by omega) (by omega), hb.alloc hB _, by simp; omega, below_new _ _⟩
def batM (b : Bat) (A : Option Addr) (n c : Nat) : List MVal := [numM b.time, numM b.prod, numM b.seq, ⟨lV b.vals, A, n, c⟩]
theorem rdV_batM {w : World} {g : Nat} {t : TypeId} {b : Bat} {A : Option Addr} {n c : Nat} (hb : Bk w g t #[.int .i64 b.time, .string ⟨#[]⟩, .slice none 0 0, .int .i64 b.prod, .string ⟨#[]⟩, .slice none 0 0, .int .i64 b.seq, .string ⟨#[]⟩, .slice none 0 0, .int .i64 0, .string ⟨#[]⟩, .slice A n c])
    (hr : RdT w A n c b.vals) : RdV w (some ⟨g, 0, none⟩) 4 4 (batM b A n c) :=
  ⟨RdK.of_bk hb MVal.cells m3 (batM b A n c) rfl 4 4 rfl (by omega) (by omega), fun m hm => by
    unfold batM at hm
    simp only [List.mem_cons, List.not_mem_nil, or_false] at hm
    rcases hm with rfl | rfl | rfl | rfl
    · exact numM_ok w _
    · exact numM_ok w _
    · exact numM_ok w _
    · exact hr⟩
set_option maxRecDepth 100000 in
set_option maxHeartbeats 4000000 in
theorem bput_any (b : Bat) (A : Option Addr) (n c : Nat) (w : World) (hr : RdT w A n c b.vals) (w0 : World) (B : Nat) (hb : Below B w0 w) (hB : B ≤ w.heap.size) :
    Calls Tryz.prog 196 #[.agg #[.int .i64 b.time, .int .i64 b.prod, .int .i64 b.seq, .slice A n c]] w fun e w' => ∃ A' M c' v, e = .returned (.tuple #[.slice A' M c', v]) ∧ PutR batF (batV b) B w' A' M c' v ∧ Below B w0 w' := by
  have hB1 := hb.alloc hB (.cells #[.int .i64 b.time, .int .i64 b.prod, .int .i64 b.seq, .slice A n c] 30)
  have hr1 := hr.ext (below_new w (.cells #[.int .i64 b.time, .int .i64 b.prod, .int .i64 b.seq, .slice A n c] 30))
  have hbk := Bk.made w 30 #[.int .i64 b.time, .int .i64 b.prod, .int .i64 b.seq, .slice A n c]
  have HB1 := Lib.hid hB1
  have HR1 := Lib.hid hr1
  have HBK := Lib.hid hbk
  clear hb hB1 hr1 hbk hr
  go_enter Tryz.func196, Tryz.ntmps196
  go_wp2
  refine wp_cut (fun w' => Below B w0 w' ∧ B ≤ w'.heap.size ∧ RdT w' A n c b.vals ∧ Bk w' w.heap.size 30 #[.int .i64 b.time, .int .i64 b.prod, .int .i64 b.seq, .slice A n c]) ⟨HB1.out, by simp; omega, HR1.out, HBK.out⟩ ?_
  rintro w1 ⟨hB1, hs1, hr1, hbk⟩
  have FS : Hid (∀ w', Below w1.heap.size w1 w' → (Below w1.heap.size w1 w' ∧ w'.cell? ⟨w.heap.size, 0, none⟩ = some (.int .i64 b.time) ∧ w'.cell? ⟨w.heap.size, 1, none⟩ = some (.int .i64 b.prod) ∧ w'.cell? ⟨w.heap.size, 2, none⟩ = some (.int .i64 b.seq) ∧ w'.cell? ⟨w.heap.size, 3, none⟩ = some (.slice A n c))) := fun w' hb =>
    ⟨hb, ((hbk.ext hb).cell 0).trans rfl, ((hbk.ext hb).cell 1).trans rfl, ((hbk.ext hb).cell 2).trans rfl, ((hbk.ext hb).cell 3).trans rfl⟩
  have HB1 := Lib.hid hB1
  have HR1 := Lib.hid hr1
  have r0 := below_drew1 (Below.refl w1.heap.size w1)
  have r1 := below_drew1 ((Below.refl w1.heap.size w1).alloc (Nat.le_refl _) (.cells #[.int .i64 b.time, .string ⟨#[]⟩, .slice none 0 0, .int .i64 b.prod, .string ⟨#[]⟩, .slice none 0 0, .int .i64 b.seq, .string ⟨#[]⟩, .slice none 0 0, .int .i64 0, .string ⟨#[]⟩, .slice A n c] 198))
  clear HBK hB1 hr1 hbk
  go_region_held3 (fun w' => Below w1.heap.size w1 w' ∧ w'.cell? ⟨w.heap.size, 0, none⟩ = some (.int .i64 b.time) ∧ w'.cell? ⟨w.heap.size, 1, none⟩ = some (.int .i64 b.prod) ∧ w'.cell? ⟨w.heap.size, 2, none⟩ = some (.int .i64 b.seq) ∧ w'.cell? ⟨w.heap.size, 3, none⟩ = some (.slice A n c)) (first | exact FS.out _ r0 | exact FS.out _ hb4 | exact FS.out _ (hb3.alloc hs3 _) | exact FS.out _ hb3 | exact FS.out _ r1) (first | (go_at_call 227; (with_reducible refine (bfields_any w1.drew w1 w1.heap.size r0 r0.size).mono ?_); rintro e w3 ⟨g3, rfl, hf3, hb3, hs3, hx3⟩; have HF4 := Lib.hid (hf3.ext (below_new w3 (.cells #[.int .i64 b.time, .string ⟨#[]⟩, .slice none 0 0, .int .i64 b.prod, .string ⟨#[]⟩, .slice none 0 0, .int .i64 b.seq, .string ⟨#[]⟩, .slice none 0 0, .int .i64 0, .string ⟨#[]⟩, .slice A n c] 198))); have HV4 := Lib.hid (rdV_batM (Bk.made w3 198 _) (HR1.out.ext (hb3.alloc hs3 (.cells #[.int .i64 b.time, .string ⟨#[]⟩, .slice none 0 0, .int .i64 b.prod, .string ⟨#[]⟩, .slice none 0 0, .int .i64 b.seq, .string ⟨#[]⟩, .slice none 0 0, .int .i64 0, .string ⟨#[]⟩, .slice A n c] 198)))); have hb4' := hb3.alloc hs3 (.cells #[.int .i64 b.time, .string ⟨#[]⟩, .slice none 0 0, .int .i64 b.prod, .string ⟨#[]⟩, .slice none 0 0, .int .i64 b.seq, .string ⟨#[]⟩, .slice none 0 0, .int .i64 0, .string ⟨#[]⟩, .slice A n c] 198)) | (go_at_call 227; (with_reducible refine (bfields_any (w1.alloc (.cells #[.int .i64 b.time, .string ⟨#[]⟩, .slice none 0 0, .int .i64 b.prod, .string ⟨#[]⟩, .slice none 0 0, .int .i64 b.seq, .string ⟨#[]⟩, .slice none 0 0, .int .i64 0, .string ⟨#[]⟩, .slice A n c] 198)).drew w1 w1.heap.size r1 r1.size).mono ?_); rintro e w3 ⟨g3, rfl, hf3, hb3, hs3, hx3⟩; have HF4 := Lib.hid hf3; have HV4 := Lib.hid (rdV_batM (b := b) ((Bk.drawn1 (Bk.made w1 198 _)).ext hx3) (HR1.out.ext hb3)); have hb4' := hb3) | (go_at_call 59; (with_reducible refine (fput_r _ 4 4 batF _ 4 4 (batM b A n c) _ bat_some HF4.out HV4.out (by omega) w1 w1.heap.size hb4' hb4'.size).mono ?_); rintro e w4 ⟨A4, M4, c4, v4, rfl, hp4, hb4⟩) | fail)
  all_goals
    go_wp2_with fail
    go_ret2
    exact ⟨_, _, _, _, rfl, hp4.more hs1, HB1.out.trans (below_le hs1 hb4)⟩
end Go.Proofs.YtkdlofgfkfhofaaGreatDoor

/-
  batch: Right, Put.
-/
namespace Go.Proofs.YtkdlofgfkfhofaaGreatDoor
open Go.RowKit

def Bat.cells (b : Bat) (A : Option Addr) (n c : Nat) : List Value := [.int .i64 b.time, .int .i64 b.prod, .int .i64 b.seq, .slice A n c]
def ldB (v : Value) : Sem Value := Instr.loadAt 30 v
theorem ldB_eq (v : Value) : Instr.loadAt 30 v = ldB v := rfl
theorem size_b : (Tryz.prog.info? 30).map (·.size) = some 4 := by kernel_rfl
theorem ldB_at {w : World} {g o : Nat} {b : Bat} {A : Option Addr} {n c : Nat} (h : ∀ j u, (b.cells A n c)[j]? = some u → w.cell? ⟨g, o + j, none⟩ = some u) : (ldB (.pointer (some ⟨g, o, none⟩))).run Tryz.prog w = .ok (.agg #[.int .i64 b.time, .int .i64 b.prod, .int .i64 b.seq, .slice A n c]) w := by
  exact run_loadAt_mid w g o 30 (b.cells A n c) _ h Tryz.underlying30 rfl size_b
theorem ldB_bk {w : World} {g : Nat} {b : Bat} {A : Option Addr} {n c : Nat} (h : Bk w g 30 #[.int .i64 b.time, .int .i64 b.prod, .int .i64 b.seq, .slice A n c]) : (ldB (.pointer (some ⟨g, 0, none⟩))).run Tryz.prog w = .ok (.agg #[.int .i64 b.time, .int .i64 b.prod, .int .i64 b.seq, .slice A n c]) w :=
  ldB_at (fun j u hu => by rw [Nat.zero_add, h.cell, ← hu]; simp [Bat.cells])
attribute [local go_sem ↓] ldB_eq
set_option maxRecDepth 100000 in
set_option maxHeartbeats 2000000 in
theorem bRight_any (b : Bat) (A : Option Addr) (n c : Nat) (w : World) (hr : RdT w A n c b.vals) (w0 : World) (B : Nat) (hb : Below B w0 w) (hB : B ≤ w.heap.size) :
    Calls Tryz.prog 195 #[.agg #[.int .i64 b.time, .int .i64 b.prod, .int .i64 b.seq, .slice A n c]] w fun e w' => e = .returned (.bool (rightB b)) ∧ Below B w0 w' := by
  have hbn := below_new w (.cells #[.int .i64 b.time, .int .i64 b.prod, .int .i64 b.seq, .slice A n c] 30)
  have hB1 := hb.alloc hB (.cells #[.int .i64 b.time, .int .i64 b.prod, .int .i64 b.seq, .slice A n c] 30)
  have hP := bput_any b A n c _ (hr.ext hbn) _ _ (Below.refl (w.alloc (.cells #[.int .i64 b.time, .int .i64 b.prod, .int .i64 b.seq, .slice A n c] 30)).heap.size _) (Nat.le_refl _)
  have hbk := Bk.made w 30 #[.int .i64 b.time, .int .i64 b.prod, .int .i64 b.seq, .slice A n c]
  have hld := ldB_bk hbk
  have HP := Lib.hid hP
  have HBK := Lib.hid hbk
  have HB1 := Lib.hid hB1
  have hsz : Hid (B ≤ (w.alloc (.cells #[.int .i64 b.time, .int .i64 b.prod, .int .i64 b.seq, .slice A n c] 30)).heap.size) := by show _ ≤ _; simp; omega
  clear hP hbk hbn hB1
  unfold rightB
  cases hok : okAll batF (batV b)
  case' true =>
    by_cases hp : 0 < b.prod
  all_goals
    go_enter Tryz.func195, Tryz.ntmps195
    go_wp2_with fail
    refine HP.out.mono ?_
    rintro e w1 ⟨A1, M1, c1, v1, rfl, hp1, hb1⟩
    have hnil := hp1.nil
    have hgd := hp1.guard 10
    rw [hok] at hnil
    have hbk1 := HBK.out.ext hb1
    have c1 : w1.cell? ⟨w.heap.size, 1, none⟩ = some (.int .i64 b.prod) := hbk1.cell 1
    have c2 : w1.cell? ⟨w.heap.size, 2, none⟩ = some (.int .i64 b.seq) := hbk1.cell 2
    clear hbk1
    go_wp2_with fail
    go_ret
    refine ⟨ret_bool ?_, HB1.out.trans (below_le hsz.out hb1)⟩
    first | rfl | (simp <;> omega) | (simp; try omega)
set_option maxRecDepth 100000 in
set_option maxHeartbeats 2000000 in
theorem bPut_any (b : Bat) (A : Option Addr) (n c : Nat) (w : World) (hr : RdT w A n c b.vals) (w0 : World) (B : Nat) (hb : Below B w0 w) (hB : B ≤ w.heap.size) :
    Calls Tryz.prog 153 #[.agg #[.int .i64 b.time, .int .i64 b.prod, .int .i64 b.seq, .slice A n c]] w fun e w' => ∃ A' M c', e = .returned (.slice A' M c') ∧ OwnB w' B (.slice A' M c') (putB b) ∧ Below B w0 w' := by
  have hbn := below_new w (.cells #[.int .i64 b.time, .int .i64 b.prod, .int .i64 b.seq, .slice A n c] 30)
  have hB1 := hb.alloc hB (.cells #[.int .i64 b.time, .int .i64 b.prod, .int .i64 b.seq, .slice A n c] 30)
  have hR := bRight_any b A n c _ (hr.ext hbn) _ _ (Below.refl (w.alloc (.cells #[.int .i64 b.time, .int .i64 b.prod, .int .i64 b.seq, .slice A n c] 30)).heap.size _) (Nat.le_refl _)
  have hbk := Bk.made w 30 #[.int .i64 b.time, .int .i64 b.prod, .int .i64 b.seq, .slice A n c]
  have hld := ldB_bk hbk
  have HBK := Lib.hid hbk
  have HB1 := Lib.hid hB1
  have HRT := Lib.hid (hr.ext hbn)
  have hsz : Hid (B ≤ (w.alloc (.cells #[.int .i64 b.time, .int .i64 b.prod, .int .i64 b.seq, .slice A n c] 30)).heap.size) := by show _ ≤ _; simp; omega
  clear hbk hbn hB1
  unfold putB
  cases hok : rightB b
  · rw [hok] at hR
    have HR := Lib.hid hR
    clear hR
    go_enter Tryz.func153, Tryz.ntmps153
    go_wp2_with fail
    refine HR.out.mono ?_
    rintro e w1 ⟨rfl, hb1⟩
    go_wp2_with fail
    go_ret
    exact ⟨none, 0, 0, rfl, OwnB.nil _ _, HB1.out.trans (below_le hsz.out hb1)⟩
  · rw [hok] at hR
    have HR := Lib.hid hR
    have hall : okAll batF (batV b) = true := by unfold rightB at hok; rw [Bool.and_eq_true] at hok; exact hok.1
    have Hall := Lib.hid hall
    clear hR hall
    go_enter Tryz.func153, Tryz.ntmps153
    go_wp2_with fail
    refine HR.out.mono ?_
    rintro e w1 ⟨rfl, hb1⟩
    have hbk1 := HBK.out.ext hb1
    have hld1 := ldB_bk hbk1
    have hB2 := HB1.out.trans (below_le hsz.out hb1)
    have hP := bput_any b A n c w1 (HRT.out.ext hb1) w0 B hB2 (Nat.le_trans hsz.out hb1.size)
    have HP := Lib.hid hP
    clear hP hld hbk1
    go_wp2_with fail
    refine HP.out.mono ?_
    rintro e w2 ⟨A2, M2, c2, v2, rfl, hp2, hb2⟩
    rcases hp2 with ⟨_, rfl, ho⟩ | ⟨hno, _⟩
    · go_wp2_with fail
      go_ret
      exact ⟨_, _, _, rfl, ho, hb2⟩
    · rw [Hall.out] at hno; cases hno
end Go.Proofs.YtkdlofgfkfhofaaGreatDoor

/-
  entry: name, number, fields.
-/
namespace Go.Proofs.YtkdlofgfkfhofaaGreatDoor
open Go.RowKit
attribute [local go_sem ↓] ldF_eq stF_eq

def zF : Array Value := #[.int .i64 0, .int .i64 0, .int .i64 0, .int .i64 0, .int .i64 0]
theorem info_f : (Tryz.prog.info? 193).map (fun i => (i.zero, i.size, i.bytes)) = some (some (.agg zF), 5, 40) := by kernel_rfl
set_option maxRecDepth 100000 in
theorem name_fld (w w0 : World) (B : Nat) (hb : Below B w0 w) (hB : B ≤ w.heap.size) :
    Calls Tryz.prog 152 #[] w fun e w' => e = .returned (.agg #[.int .i64 2, .int .i64 0, .int .i64 1, .int .i64 24, .int .i64 0]) ∧ Below B w0 w' ∧ B ≤ w'.heap.size := by
  have hst := stF_new w (sF 1 24)
  have hb1 := hb.alloc hB (.cells #[.int .i64 2, .int .i64 0, .int .i64 1, .int .i64 24, .int .i64 0] 193)
  have hbk := Bk.made w 193 #[.int .i64 2, .int .i64 0, .int .i64 1, .int .i64 24, .int .i64 0]
  have HB := Lib.hid hb1
  have HK := Lib.hid hbk
  clear hb1 hbk
  simp only [sF] at hst
  go_enter Tryz.func152, Tryz.ntmps152
  go_wp2
  refine bodyPost_ret (results_cell_row rfl _ _ w.heap.size _ _ (0, 0) _ rfl HK.out Tryz.underlying193 rfl size_f) rfl ⟨rfl, HB.out, by simp; omega⟩
set_option maxRecDepth 100000 in
theorem number_fld (size lo hi : Int) (w w0 : World) (B : Nat) (hb : Below B w0 w) (hB : B ≤ w.heap.size) :
    Calls Tryz.prog 151 #[.int .i64 size, .int .i64 lo, .int .i64 hi] w fun e w' => e = .returned (.agg #[.int .i64 1, .int .i64 size, .int .i64 lo, .int .i64 hi, .int .i64 0]) ∧ Below B w0 w' ∧ B ≤ w'.heap.size := by
  have hst := stF_new w (nF size lo hi)
  have hb1 := hb.alloc hB (.cells #[.int .i64 1, .int .i64 size, .int .i64 lo, .int .i64 hi, .int .i64 0] 193)
  have hbk := Bk.made w 193 #[.int .i64 1, .int .i64 size, .int .i64 lo, .int .i64 hi, .int .i64 0]
  have HB := Lib.hid hb1
  have HK := Lib.hid hbk
  clear hb1 hbk
  simp only [nF] at hst
  go_enter Tryz.func151, Tryz.ntmps151
  go_wp2
  refine bodyPost_ret (results_cell_row rfl _ _ w.heap.size _ _ (0, 0) _ rfl HK.out Tryz.underlying193 rfl size_f) rfl ⟨rfl, HB.out, by simp; omega⟩
theorem stF_row (w : World) (g : Nat) (f : Fld) (old : Array Value) (h : Bk w g 193 old) (ho : old.size = 5) : (stF (.pointer (some ⟨g, 0, none⟩)) (.agg #[.int .i64 f.kind, .int .i64 f.size, .int .i64 f.lo, .int .i64 f.hi, .int .i64 f.most])).run Tryz.prog w = .ok () (w.setRow g #[.int .i64 f.kind, .int .i64 f.size, .int .i64 f.lo, .int .i64 f.hi, .int .i64 f.most]) := by
  unfold stF
  simp only [Instr.storeAt, Instr.sureAddr, Sem.run_bind, Sem.run_pure, Result.andThen_ok, run_storeVar_row w g _ _ old #[.int .i64 f.kind, .int .i64 f.size, .int .i64 f.lo, .int .i64 f.hi, .int .i64 f.most] h size_f (by rw [ho]; rfl) (all_oneCell_toArray (cs := f.cells) (one_f f))]
theorem Bk.row {w : World} {g : Nat} {t : TypeId} {o : Array Value} (h : Bk w g t o) (c : Array Value) : Bk (w.setRow g c) g t c := by
  unfold Bk at h ⊢
  exact setRow_heap w g o c t _ h
theorem Bk.row_far {w : World} {g g' : Nat} {t : TypeId} {o : Array Value} (h : Bk w g t o) (c : Array Value) (hg : g ≠ g') : Bk (w.setRow g' c) g t o := by
  unfold Bk at h ⊢
  rw [setRow_other w g' g c hg]
  exact h
theorem grown_row (w : World) (g : Nat) (c : Array Value) : w.grownBy (w.setRow g c) (some g) :=
  ⟨rfl, rfl, rfl, by simp, fun k _ hk => setRow_other w g k c (fun e => hk (by rw [e]))⟩
theorem below_row {B : Nat} {w0 w : World} (h : Below B w0 w) (hB : B ≤ w.heap.size) {g : Nat} (hg : B ≤ g) (c : Array Value) : Below B w0 (w.setRow g c) := below_grown h hB (grown_row w g c) hg
theorem ldF_bk {w : World} {g : Nat} {f : Fld} (h : Bk w g 193 #[.int .i64 f.kind, .int .i64 f.size, .int .i64 f.lo, .int .i64 f.hi, .int .i64 f.most]) : (ldF (.pointer (some ⟨g, 0, none⟩))).run Tryz.prog w = .ok (.agg #[.int .i64 f.kind, .int .i64 f.size, .int .i64 f.lo, .int .i64 f.hi, .int .i64 f.most]) w :=
  ldF_at (fun j u hu => by rw [Nat.zero_add, h.cell, ← hu]; simp [Fld.cells])
/-- append onto a row of the call's own, at a step of a region that draws its order -/
theorem step_append_gen {P : Program} {ops : Array Oper} {o : Oper} {a : Act} {w : World} {K : Act → World → Prop} {Q : Exit → Act → World → Prop} {E : Prop} (hgd : o.guard = none) (s x : Operand) (t : TypeId)
    (ho : o.op = .call { callee := .builtin .append, args := #[s, x], argTypes := #[t, t] })
    (e : TypeId) (i : TypeInfo) (z : Value) (size bytes : Nat) (ht : P.underlying t = some (.slice e)) (hi : P.info? e = some i) (hz : i.zero = some z)
    (hsize : i.size = size) (hby : i.bytes = bytes) (hzs : z.cells.size = size) (hsz : 0 < size) (B : Nat) (w0 : World)
    (v : Value) (n : Nat) (xs : List Value) (hs : a.eval s = v) (hown : w.ownsRow B e size v n xs)
    (ad : Addr) (m c : Nat) (news : List Value) (hx : a.eval x = .slice (some ad) m c) (hl : news.length = m * size) (hnews : ∀ j u, news[j]? = some u → w.cell? (ad.add j) = some u) (h1 : ∀ u ∈ news, u.oneCell' = true)
    (h63 : n + m ≤ maxLen) (hbytes : (n + m) * bytes ≤ 140737488355328) (hb : Below B w0 w) (hB : B ≤ w.heap.size) (N : Nat) (hN : N = n + m)
    (h : ∀ A' c' w', Hid (w'.ownsRow B e size (.slice A' N c') N (xs ++ news)) → Hid (w.grownBy w' v.ownBlock) → Below B w0 w' → Hid (B ≤ w'.heap.size) →
      K (a.put o.dst (.slice A' N c')) w') :
    if Region.wanted o (yielded ops a.tmps) = true then Oper.wp P o a w K Q else E := by
  have hw : Region.wanted o (yielded ops a.tmps) = true := by simp [Region.wanted, hgd]
  rw [if_pos hw]
  subst hN
  obtain ⟨v', w', hrun, h2, h3, _, h5⟩ := run_append_own_at (P := P) w B t o.type e i z size bytes ht hi hz hsize hby hzs hsz v n xs hown ad m c news hl hnews h1 h63 hbytes hB
  obtain ⟨A', c', rfl⟩ : ∃ A' c', v' = .slice A' (n + m) c' := by
    rcases h2.2 with ⟨rfl, h0⟩ | ⟨g, cap, cur, rfl, _⟩
    · exact ⟨none, 0, by rw [h0]⟩
    · exact ⟨_, _, rfl⟩
  unfold Oper.wp execOp
  simp only [ho, resolve, invoke, builtin, Sem.run_bind, Sem.run_pure, Result.andThen_ok, List.map_toArray, List.map_cons, List.map_nil, hs, hx, hrun]
  exact h A' c' w' h2 h3 (hb.grown h3 hB fun k hk => (World.ownsRow.lt hown k hk).1) (Nat.le_trans hB h3.size)
theorem cells_newm (w : World) (t : TypeId) (fr : Nat × Nat) (cs : Array Value) (news : List Value) (h : cs = news.toArray) (g : Nat) (hg : g = w.heap.size) : ∀ j u, news[j]? = some u → (w.alloc (.cells cs t fr)).cell? ((⟨g, 0, none⟩ : Addr).add j) = some u := by
  intro j u hu
  subst h hg
  rw [Addr.add_none, cell_of_row _ _ _ _ _ _ (heap_alloc_new w _), ← hu]
  simp
/-- what fields hands back of a kind -/
def FldR (k : Int) (w' : World) (v : Value) : Prop := ∃ A n c, v = .slice A n c ∧ RdF w' A n c (fldsE k) ∧ n ≤ 100 ∧ A.isSome = decide (1 ≤ k ∧ k ≤ 5)
theorem fldR_bk {k : Int} {w' : World} {g : Nat} {t : TypeId} {cs : Array Value} {n : Nat} (hb : Bk w' g t cs) (hc : cs = ((fldsE k).flatMap Fld.cells).toArray) (hn : (fldsE k).length = n) (hn' : n ≤ 100) (hk : decide (1 ≤ k ∧ k ≤ 5) = true) : FldR k w' (.slice (some ⟨g, 0, none⟩) n n) :=
  ⟨_, n, n, rfl, RdK.of_bk hb Fld.cells f5 (fldsE k) hc n n hn (Nat.le_refl _) (by omega), hn', by rw [hk]; rfl⟩
theorem fldR_own {k : Int} {w' : World} {B : Nat} {t : TypeId} {A : Option Addr} {n c : Nat} {xs : List Value} (ho : w'.ownsRow B t 5 (.slice A n c) n xs) (hx : xs = (fldsE k).flatMap Fld.cells) (hn : 0 < n) (hn' : n ≤ 100) (hk : decide (1 ≤ k ∧ k ≤ 5) = true) : FldR k w' (.slice A n c) := by
  refine ⟨A, n, c, rfl, ?_, hn', ?_⟩
  · subst hx
    exact RdK.of_own Fld.cells f5 (by omega) (fldsE k) ho
  · rw [hk]
    rcases ho.2 with ⟨_, h0⟩ | ⟨g, cap, cur, hv, _⟩
    · omega
    · injection hv with h1 h2 h3
      subst h1
      rfl
theorem name_fld2 (w w0 : World) (B : Nat) (hb : Below B w0 w.drew) (hB : B ≤ w.drew.heap.size) :
    Calls Tryz.prog 152 #[] w.drew fun e w' => e = .returned (.agg #[.int .i64 2, .int .i64 0, .int .i64 1, .int .i64 24, .int .i64 0]) ∧ Below w.heap.size w w' ∧ Below B w0 w' ∧ B ≤ w'.heap.size := by
  refine (name_fld w.drew w w.heap.size (below_drew1 (Below.refl _ _)) (Nat.le_refl _)).mono ?_
  rintro e w' ⟨rfl, h1, _⟩
  have h2 : Below w.drew.heap.size w.drew w' := ⟨h1.os, h1.tape, h1.output, h1.size, h1.block⟩
  exact ⟨rfl, h1, hb.trans (below_le hB h2), Nat.le_trans hB h1.size⟩
/-- the two fields that fields lays first -/
structure Two (w' : World) (B : Nat) (w0 : World) (N : Nat) : Prop where
  part : Bk w' N 193 #[.int .i64 1, .int .i64 1, .int .i64 0, .int .i64 3, .int .i64 0]
  off : Bk w' (N + 1) 193 #[.int .i64 1, .int .i64 8, .int .i64 0, .int .i64 9223372036854775807, .int .i64 0]
  below : Below B w0 w'
  size : B ≤ w'.heap.size
theorem two_made {w2 w0 : World} {B : Nat} (hb2 : Below B w0 w2) (hB2 : B ≤ w2.heap.size) :
    Two ((((w2.alloc (.cells #[.int .i64 0, .int .i64 0, .int .i64 0, .int .i64 0, .int .i64 0] 193)).alloc (.cells #[.int .i64 0, .int .i64 0, .int .i64 0, .int .i64 0, .int .i64 0] 193)).setRow w2.heap.size #[.int .i64 1, .int .i64 1, .int .i64 0, .int .i64 3, .int .i64 0]).setRow (w2.heap.size + 1) #[.int .i64 1, .int .i64 8, .int .i64 0, .int .i64 9223372036854775807, .int .i64 0]) B w0 w2.heap.size := by
  have q1 : Bk ((w2.alloc (.cells zF 193)).alloc (.cells zF 193)) w2.heap.size 193 zF := (Bk.made w2 _ zF).alloc _
  have q2 : Bk ((w2.alloc (.cells zF 193)).alloc (.cells zF 193)) (w2.heap.size + 1) 193 zF := Bk.made_at (w2.alloc (.cells zF 193)) _ _ zF (by simp)
  have b1 := (hb2.alloc hB2 (.cells zF 193)).alloc (by simp; omega) (.cells zF 193)
  have b2 := below_row b1 (by simp; omega) hB2 #[.int .i64 1, .int .i64 1, .int .i64 0, .int .i64 3, .int .i64 0]
  have b3 := below_row b2 (by simp [World.setRow]; omega) (show B ≤ w2.heap.size + 1 by omega) #[.int .i64 1, .int .i64 8, .int .i64 0, .int .i64 9223372036854775807, .int .i64 0]
  exact ⟨(q1.row _).row_far _ (by omega), (q2.row_far _ (by omega)).row _, b3, by simp [World.setRow]; omega⟩
set_option maxRecDepth 100000 in
set_option maxHeartbeats 4000000 in
theorem fields_any (k : Int) (w w0 : World) (B : Nat) (hb : Below B w0 w) (hB : B ≤ w.heap.size) :
    Calls Tryz.prog 100 #[.int .i64 k] w fun e w' => ∃ v, e = .returned v ∧ FldR k w' v ∧ Below B w0 w' := by
  obtain ⟨ii, hi0, hz0, hs0, hb0⟩ := info_parts info_f
  have hk : k = 1 ∨ k = 2 ∨ k = 3 ∨ k = 4 ∨ k = 5 ∨ ((k == 1) = false ∧ (k == 2) = false ∧ (k == 3) = false ∧ (k == 4) = false ∧ (k == 5) = false) := by
    simp only [beq_eq_false_iff_ne]
    omega
  have HN1 := Lib.hid (number_fld 1 0 3 w w0 B hb hB)
  have HI := Lib.hid hi0
  have HZ := Lib.hid hz0
  have HS := Lib.hid hs0
  have HB := Lib.hid hb0
  clear hb hB hi0 hz0 hs0 hb0
  rcases hk with rfl | rfl | rfl | rfl | rfl | ⟨k1, k2, k3, k4, k5⟩
  all_goals
    go_enter Tryz.func100, Tryz.ntmps100
    go_wp2_with fail
    refine HN1.out.mono ?_
    rintro e w1 ⟨rfl, hb1, hB1⟩
    have HN2 := Lib.hid (number_fld 8 0 9223372036854775807 w1 w0 B hb1 hB1)
    clear hb1 hB1
    go_wp2_with fail
    refine HN2.out.mono ?_
    rintro e w2 ⟨rfl, hb2, hB2⟩
    have q1 : Bk ((w2.alloc (.cells zF 193)).alloc (.cells zF 193)) w2.heap.size 193 zF := (Bk.made w2 _ zF).alloc _
    have q2 : Bk ((w2.alloc (.cells zF 193)).alloc (.cells zF 193)) (w2.heap.size + 1) 193 zF := Bk.made_at (w2.alloc (.cells zF 193)) _ _ zF (by simp)
    have hst1 := stF_row _ _ (nF 1 0 3) _ q1 rfl
    have q3 := q2.row_far #[.int .i64 1, .int .i64 1, .int .i64 0, .int .i64 3, .int .i64 0] (g' := w2.heap.size) (by omega)
    have hst2 := stF_row _ _ (nF 8 0 9223372036854775807) _ q3 rfl
    simp only [nF, zF] at hst1 hst2
    have HT := Lib.hid (two_made hb2 hB2)
    clear q1 q2 q3 hb2 hB2
    go_wp2_with fail
  · refine wp_cut (fun w' => Two w' B w0 w2.heap.size) HT.out ?_
    clear HT hst1 hst2
    rintro w3 ht
    have FS : Hid (∀ w', Below w3.heap.size w3 w' → (Below w3.heap.size w3 w' ∧ (ldF (.pointer (some ⟨w2.heap.size + 1, 0, none⟩))).run Tryz.prog w' = .ok (.agg #[.int .i64 1, .int .i64 8, .int .i64 0, .int .i64 9223372036854775807, .int .i64 0]) w')) := fun w' hb => ⟨hb, ldF_bk (f := nF 8 0 9223372036854775807) (ht.off.ext hb)⟩
    have r0 := below_drew1 (Below.refl w3.heap.size w3)
    have Ht := Lib.hid ht
    clear ht
    go_region_held3 (fun w' => Below w3.heap.size w3 w' ∧ (ldF (.pointer (some ⟨w2.heap.size + 1, 0, none⟩))).run Tryz.prog w' = .ok (.agg #[.int .i64 1, .int .i64 8, .int .i64 0, .int .i64 9223372036854775807, .int .i64 0]) w') (first | exact FS.out _ r0 | exact FS.out _ hb5 | exact FS.out _ hb4 | exact FS.out _ (hb5.alloc hs5 _) | exact FS.out _ (hb4.alloc hs4 _)) (first | (go_at_call 152; (first | (with_reducible refine (name_fld w3.drew w3 w3.heap.size r0 r0.size).mono ?_) | (with_reducible refine (name_fld _ w3 w3.heap.size hb4 hs4).mono ?_)); rintro e w5 ⟨rfl, hb5, hs5⟩) | (go_at_call 151; (first | (with_reducible refine (number_fld 1 1 4 w3.drew w3 w3.heap.size r0 r0.size).mono ?_) | (with_reducible refine (number_fld 1 1 4 _ w3 w3.heap.size hb5 hs5).mono ?_)); rintro e w4 ⟨rfl, hb4, hs4⟩) | fail)
    all_goals
      go_wp2_with fail
      go_ret
      exact ⟨_, rfl, fldR_bk (Bk.made w4 _ _) rfl rfl (by omega) (by decide), Ht.out.below.trans (below_le Ht.out.size (hb4.alloc hs4 _))⟩
  · refine calls_cut (fun w' => Two w' B w0 w2.heap.size) HT.out ?_
    clear HT hst1 hst2
    rintro w3 ht
    refine (name_fld w3 w3 w3.heap.size (Below.refl _ _) (Nat.le_refl _)).mono ?_
    rintro e w4 ⟨rfl, hb4, hs4⟩
    go_wp2_with fail
    go_ret
    exact ⟨_, rfl, fldR_bk (Bk.made w4 _ _) rfl rfl (by omega) (by decide), ht.below.trans (below_le ht.size (hb4.alloc hs4 _))⟩
  · refine wp_cut (fun w' => Two w' B w0 w2.heap.size) HT.out ?_
    clear HT hst1 hst2
    rintro w3 ht
    have FS : Hid (∀ w', Below w3.heap.size w3 w' → (Below w3.heap.size w3 w' ∧ (ldF (.pointer (some ⟨w2.heap.size, 0, none⟩))).run Tryz.prog w' = .ok (.agg #[.int .i64 1, .int .i64 1, .int .i64 0, .int .i64 3, .int .i64 0]) w')) := fun w' hb => ⟨hb, ldF_bk (f := nF 1 0 3) (ht.part.ext hb)⟩
    have r0 := below_drew1 (Below.refl w3.heap.size w3)
    have Ht := Lib.hid ht
    clear ht
    go_region_held3 (fun w' => Below w3.heap.size w3 w' ∧ (ldF (.pointer (some ⟨w2.heap.size, 0, none⟩))).run Tryz.prog w' = .ok (.agg #[.int .i64 1, .int .i64 1, .int .i64 0, .int .i64 3, .int .i64 0]) w') (first | exact FS.out _ r0 | exact FS.out _ hb4 | exact FS.out _ (hb4.alloc hs4 _)) (first | (go_at_call 152; (with_reducible refine (name_fld w3.drew w3 w3.heap.size r0 r0.size).mono ?_); rintro e w4 ⟨rfl, hb4, hs4⟩) | fail)
    all_goals
      go_wp2_with fail
      go_ret
      exact ⟨_, rfl, fldR_bk (Bk.made w4 _ _) rfl rfl (by omega) (by decide), Ht.out.below.trans (below_le Ht.out.size (hb4.alloc hs4 _))⟩
  · refine calls_cut (fun w' => Two w' B w0 w2.heap.size) HT.out ?_
    clear HT hst1 hst2
    rintro w3 ht
    refine (name_fld w3 w3 w3.heap.size (Below.refl _ _) (Nat.le_refl _)).mono ?_
    rintro e w4 ⟨rfl, hb4, hs4⟩
    go_wp2_with (first | (at_builtin; refine wpList_append_gen rfl (.tmp 29) (.tmp 31) 123 rfl 193 ii _ 5 40 Tryz.underlying123 HI.out HZ.out HS.out HB.out rfl (by omega) w3.heap.size w3 _ 0 [] rfl (World.ownsRow_nil _ _ _ _) ⟨w4.heap.size, 0, none⟩ 1 1 [.int .i64 2, .int .i64 0, .int .i64 1, .int .i64 24, .int .i64 0] rfl rfl (cells_newm w4 _ (0, 0) _ _ rfl _ rfl) (by decide) (by unfold maxLen; omega) (by omega) (hb4.alloc hs4 _) (hb4.alloc hs4 _).size ?_; intro A6 c6 w6 ho6 hg6 hob6 hb6 hs6) | fail)
    have HO6 := Lib.hid (show w6.ownsRow w3.heap.size 193 5 (.slice A6 1 c6) 1 [.int .i64 2, .int .i64 0, .int .i64 1, .int .i64 24, .int .i64 0] from ho6.out)
    have FS : Hid (∀ w', Below w3.heap.size w3 w' → (Below w3.heap.size w3 w' ∧ (ldF (.pointer (some ⟨w2.heap.size, 0, none⟩))).run Tryz.prog w' = .ok (.agg #[.int .i64 1, .int .i64 1, .int .i64 0, .int .i64 3, .int .i64 0]) w' ∧ (ldF (.pointer (some ⟨w2.heap.size + 1, 0, none⟩))).run Tryz.prog w' = .ok (.agg #[.int .i64 1, .int .i64 8, .int .i64 0, .int .i64 9223372036854775807, .int .i64 0]) w')) := fun w' hb => ⟨hb, ldF_bk (f := nF 1 0 3) (ht.part.ext hb), ldF_bk (f := nF 8 0 9223372036854775807) (ht.off.ext hb)⟩
    have r6 := below_drew1 hb6
    have Ht := Lib.hid ht
    clear ht
    go_region_held3 (fun w' => Below w3.heap.size w3 w' ∧ (ldF (.pointer (some ⟨w2.heap.size, 0, none⟩))).run Tryz.prog w' = .ok (.agg #[.int .i64 1, .int .i64 1, .int .i64 0, .int .i64 3, .int .i64 0]) w' ∧ (ldF (.pointer (some ⟨w2.heap.size + 1, 0, none⟩))).run Tryz.prog w' = .ok (.agg #[.int .i64 1, .int .i64 8, .int .i64 0, .int .i64 9223372036854775807, .int .i64 0]) w') (first | exact FS.out _ r6 | exact FS.out _ hb9 | exact FS.out _ hb8 | exact FS.out _ (hb8.alloc hs8 _)) (first | (go_at_call 152; (with_reducible refine (name_fld2 w6 w3 w3.heap.size r6 r6.size).mono ?_); rintro e w8 ⟨rfl, hx8, hb8, hs8⟩; have HO8 := Lib.hid (World.ownsRow.kept HO6.out (grown_of_below hx8) (Classical.em _))) | ((refine step_append_gen (by rfl) (.tmp 33) (.tmp 37) 123 (by rfl) 193 ii _ 5 40 Tryz.underlying123 HI.out HZ.out HS.out HB.out (by rfl) (by omega) w3.heap.size w3 _ 1 [.int .i64 2, .int .i64 0, .int .i64 1, .int .i64 24, .int .i64 0] (by rfl) (World.ownsRow.alloc HO8.out _) ⟨w8.heap.size, 0, none⟩ 3 3 [.int .i64 2, .int .i64 0, .int .i64 1, .int .i64 24, .int .i64 0, .int .i64 1, .int .i64 1, .int .i64 0, .int .i64 3, .int .i64 0, .int .i64 1, .int .i64 8, .int .i64 0, .int .i64 9223372036854775807, .int .i64 0] (by rfl) (by rfl) (cells_newm w8 _ (0, 0) _ _ rfl _ rfl) (by decide) (by unfold maxLen; omega) (by omega) (hb8.alloc hs8 _) (hb8.alloc hs8 _).size 4 rfl ?_; intro A9 c9 w9 ho9 hg9 hb9 hs9)) | fail)
    all_goals
      go_wp2_with fail
      go_ret
      exact ⟨_, rfl, fldR_own ho9.out rfl (by omega) (by omega) (by decide), Ht.out.below.trans (below_le Ht.out.size hb9)⟩
  · refine wp_cut (fun w' => Two w' B w0 w2.heap.size) HT.out ?_
    clear HT hst1 hst2
    rintro w3 ht
    have FS : Hid (∀ w', Below w3.heap.size w3 w' → (Below w3.heap.size w3 w' ∧ (ldF (.pointer (some ⟨w2.heap.size, 0, none⟩))).run Tryz.prog w' = .ok (.agg #[.int .i64 1, .int .i64 1, .int .i64 0, .int .i64 3, .int .i64 0]) w' ∧ (ldF (.pointer (some ⟨w2.heap.size + 1, 0, none⟩))).run Tryz.prog w' = .ok (.agg #[.int .i64 1, .int .i64 8, .int .i64 0, .int .i64 9223372036854775807, .int .i64 0]) w')) := fun w' hb => ⟨hb, ldF_bk (f := nF 1 0 3) (ht.part.ext hb), ldF_bk (f := nF 8 0 9223372036854775807) (ht.off.ext hb)⟩
    have r6 := below_drew1 (Below.refl w3.heap.size w3)
    have Ht := Lib.hid ht
    clear ht
    go_region_held3 (fun w' => Below w3.heap.size w3 w' ∧ (ldF (.pointer (some ⟨w2.heap.size, 0, none⟩))).run Tryz.prog w' = .ok (.agg #[.int .i64 1, .int .i64 1, .int .i64 0, .int .i64 3, .int .i64 0]) w' ∧ (ldF (.pointer (some ⟨w2.heap.size + 1, 0, none⟩))).run Tryz.prog w' = .ok (.agg #[.int .i64 1, .int .i64 8, .int .i64 0, .int .i64 9223372036854775807, .int .i64 0]) w') (first | exact FS.out _ r6 | exact FS.out _ hb9 | exact FS.out _ hb8 | exact FS.out _ (hb8.alloc hs8 _)) (first | (go_at_call 152; (with_reducible refine (name_fld w3.drew w3 w3.heap.size r6 r6.size).mono ?_); rintro e w8 ⟨rfl, hb8, hs8⟩) | ((refine step_append_gen (by rfl) (.tmp 33) (.tmp 37) 123 (by rfl) 193 ii _ 5 40 Tryz.underlying123 HI.out HZ.out HS.out HB.out (by rfl) (by omega) w3.heap.size w3 _ 0 [] (by rfl) (World.ownsRow_nil _ _ _ _) ⟨w8.heap.size, 0, none⟩ 3 3 [.int .i64 2, .int .i64 0, .int .i64 1, .int .i64 24, .int .i64 0, .int .i64 1, .int .i64 1, .int .i64 0, .int .i64 3, .int .i64 0, .int .i64 1, .int .i64 8, .int .i64 0, .int .i64 9223372036854775807, .int .i64 0] (by rfl) (by rfl) (cells_newm w8 _ (0, 0) _ _ rfl _ rfl) (by decide) (by unfold maxLen; omega) (by omega) (hb8.alloc hs8 _) (hb8.alloc hs8 _).size 3 rfl ?_; intro A9 c9 w9 ho9 hg9 hb9 hs9)) | fail)
    all_goals
      go_wp2_with fail
      go_ret
      exact ⟨_, rfl, fldR_own ho9.out rfl (by omega) (by omega) (by decide), Ht.out.below.trans (below_le Ht.out.size hb9)⟩
  · go_ret
    have n1 : k ≠ 1 := by simpa using k1
    have n2 : k ≠ 2 := by simpa using k2
    have n3 : k ≠ 3 := by simpa using k3
    have n4 : k ≠ 4 := by simpa using k4
    have n5 : k ≠ 5 := by simpa using k5
    have e : fldsE k = [] := by unfold fldsE; rw [if_neg n1, if_neg n2, if_neg n3, if_neg n4, if_neg n5]
    exact ⟨_, rfl, ⟨none, 0, 0, rfl, by rw [e]; exact RdK.nil _ _, by omega, by rw [decide_eq_false (by omega)]; rfl⟩, HT.out.below⟩
end Go.Proofs.YtkdlofgfkfhofaaGreatDoor
