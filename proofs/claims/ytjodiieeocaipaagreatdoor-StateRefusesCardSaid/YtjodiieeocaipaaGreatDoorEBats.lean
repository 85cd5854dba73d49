import Derived.Test.YtjodiieeocaipaaGreatDoorEPut
/-
  batch: fields, put, Right, Put.
-/
namespace Go.Proofs.YtjodiieeocaipaaGreatDoor
open Go.RowKit
attribute [local go_sem ↓] ldF_eq ldV_eq

/-- Put's two results -/
def PutR (fs : List Fld) (vs : List Val) (B : Nat) (w' : World) (A : Option Addr) (M c : Nat) (v : Value) : Prop :=
  (okAll fs vs = true ∧ v = .nilIface ∧ OwnB w' B (.slice A M c) (bytesAll fs vs)) ∨ (okAll fs vs = false ∧ Value.slice A M c = .slice none 0 0 ∧ ∃ k, IsErr 1 v k)
theorem IsErr.ne_nil {d : Nat} {v : Value} {k : Int} (h : IsErr d v k) (w : World) : (binOp .eql 27 v .nilIface).run Tryz.prog w = .ok (.bool false) w := by
  cases h with
  | no k => kernel_rfl
  | flt d op at_ v k h => kernel_rfl
theorem PutR.nil {fs : List Fld} {vs : List Val} {B : Nat} {w' : World} {A : Option Addr} {M c : Nat} {v : Value} (h : PutR fs vs B w' A M c v) (w : World) : (binOp .eql 27 v .nilIface).run Tryz.prog w = .ok (.bool (okAll fs vs)) w := by
  rcases h with ⟨h1, rfl, _⟩ | ⟨h1, _, k, hk⟩
  · rw [h1]; kernel_rfl
  · rw [h1]; exact hk.ne_nil w
theorem IsErr.guard {d : Nat} {v : Value} {k : Int} (h : IsErr d v k) (x : Tmp) (w : World) : (eqGuard .eql 27 (.tmp x) (.const .nilIface) v .nilIface).run Tryz.prog w = .ok () w := by
  cases h with
  | no k => kernel_rfl
  | flt d op at_ v k h => kernel_rfl
theorem PutR.guard {fs : List Fld} {vs : List Val} {B : Nat} {w' : World} {A : Option Addr} {M c : Nat} {v : Value} (h : PutR fs vs B w' A M c v) (x : Tmp) (w : World) : (eqGuard .eql 27 (.tmp x) (.const .nilIface) v .nilIface).run Tryz.prog w = .ok () w := by
  rcases h with ⟨h1, rfl, _⟩ | ⟨h1, _, k, hk⟩
  · kernel_rfl
  · exact hk.guard x w
theorem PutR.more {fs : List Fld} {vs : List Val} {B B' : Nat} {w' : World} {A : Option Addr} {M c : Nat} {v : Value} (h : PutR fs vs B' w' A M c v) (hB : B ≤ B') : PutR fs vs B w' A M c v :=
  h.imp (fun ⟨a, b, d⟩ => ⟨a, b, d.more hB⟩) id
theorem fput_r (A : Option Addr) (n c : Nat) (fs : List Fld) (Av : Option Addr) (nv cv : Nat) (ms : List MVal) (w : World) (hf : ∀ f ∈ fs, f ∈ someF) (h : RdF w A n c fs) (hv : RdV w Av nv cv ms) (hn : n ≤ 100) (w0 : World) (B : Nat) (hb : Below B w0 w) (hB : B ≤ w.heap.size) :
    Calls Tryz.prog 44 #[.slice A n c, .slice Av nv cv] w fun e w' => ∃ A' M c' v, e = .returned (.tuple #[.slice A' M c', v]) ∧ PutR fs (vsOf ms) B w' A' M c' v ∧ Below B w0 w' := by
  refine (fput_any A n c fs Av nv cv ms w hf h hv hn).mono ?_
  rintro e w' ⟨⟨h1, A', M, c', rfl, ho⟩ | ⟨h1, v, k, rfl, he⟩, hb'⟩
  · exact ⟨A', M, c', _, rfl, .inl ⟨h1, rfl, ho.more hB⟩, hb.trans (below_le hB hb')⟩
  · exact ⟨none, 0, 0, v, rfl, .inr ⟨h1, rfl, k, he⟩, hb.trans (below_le hB hb')⟩
theorem f5 : ∀ x : Fld, x.cells.length = 5 := fun _ => rfl
theorem m3 : ∀ x : MVal, x.cells.length = 3 := fun _ => rfl
theorem bat_some : ∀ f ∈ batF, f ∈ someF := by
  intro f hf
  unfold batF at hf
  unfold someF
  simp only [List.mem_cons, List.not_mem_nil, or_false] at hf ⊢
  rcases hf with rfl | rfl | rfl | rfl
  · exact .inr (.inr (.inr (.inr (.inr (.inl rfl)))))
  · exact .inr (.inr (.inr (.inr (.inr (.inr (.inl rfl))))))
  · exact .inr (.inr (.inr (.inr (.inr (.inr (.inr (.inl rfl)))))))
  · exact .inr (.inr (.inr (.inr (.inr (.inr (.inr (.inr rfl)))))))
set_option maxRecDepth 100000 in
set_option maxHeartbeats 1000000 in
theorem bfields_any (w w0 : World) (B : Nat) (hb : Below B w0 w) (hB : B ≤ w.heap.size) :
    Calls Tryz.prog 108 #[] w fun e w' => ∃ g, e = .returned (.slice (some ⟨g, 0, none⟩) 4 4) ∧ RdF w' (some ⟨g, 0, none⟩) 4 4 batF ∧ Below B w0 w' ∧ B ≤ w'.heap.size ∧ Below w.heap.size w w' := by
  go_enter Tryz.func108, Tryz.ntmps108
  go_wp2
  go_ret
  exact ⟨_, rfl, RdK.of_bk (Bk.made w _ _) Fld.cells f5 batF rfl 4 4 rfl (by omega) (by omega), hb.alloc hB _, by simp; omega, below_new _ _⟩
def batM (b : Bat) (A : Option Addr) (n c : Nat) : List MVal := [numM b.time, numM b.prod, numM b.seq, ⟨lV b.vals, A, n, c⟩]
theorem batM_vs (b : Bat) (A : Option Addr) (n c : Nat) : vsOf (batM b A n c) = batV b := rfl
theorem rdV_batM {w : World} {g : Nat} {t : TypeId} {b : Bat} {A : Option Addr} {n c : Nat} (hb : Bk w g t #[.int .i64 b.time, .string ⟨#[]⟩, .slice none 0 0, .int .i64 b.prod, .string ⟨#[]⟩, .slice none 0 0, .int .i64 b.seq, .string ⟨#[]⟩, .slice none 0 0, .int .i64 0, .string ⟨#[]⟩, .slice A n c])
    (hr : RdT w A n c b.vals) : RdV w (some ⟨g, 0, none⟩) 4 4 (batM b A n c) :=
  ⟨RdK.of_bk hb MVal.cells m3 (batM b A n c) rfl 4 4 rfl (by omega) (by omega), fun m hm => by
    unfold batM at hm
    simp only [List.mem_cons, List.not_mem_nil, or_false] at hm
    rcases hm with rfl | rfl | rfl | rfl
    · exact numM_ok w _
    · exact numM_ok w _
    · exact numM_ok w _
    · exact hr⟩
set_option maxRecDepth 100000 in
set_option maxHeartbeats 4000000 in
theorem bput_any (b : Bat) (A : Option Addr) (n c : Nat) (w : World) (hr : RdT w A n c b.vals) (w0 : World) (B : Nat) (hb : Below B w0 w) (hB : B ≤ w.heap.size) :
    Calls Tryz.prog 99 #[.agg #[.int .i64 b.time, .int .i64 b.prod, .int .i64 b.seq, .slice A n c]] w fun e w' => ∃ A' M c' v, e = .returned (.tuple #[.slice A' M c', v]) ∧ PutR batF (batV b) B w' A' M c' v ∧ Below B w0 w' := by
  have hB1 := hb.alloc hB (.cells #[.int .i64 b.time, .int .i64 b.prod, .int .i64 b.seq, .slice A n c] 32)
  have hr1 := hr.ext (below_new w (.cells #[.int .i64 b.time, .int .i64 b.prod, .int .i64 b.seq, .slice A n c] 32))
  have hbk := Bk.made w 32 #[.int .i64 b.time, .int .i64 b.prod, .int .i64 b.seq, .slice A n c]
  have HB1 := Lib.hid hB1
  have HR1 := Lib.hid hr1
  have HBK := Lib.hid hbk
  clear hb hB1 hr1 hbk hr
  go_enter Tryz.func99, Tryz.ntmps99
  go_wp2
  refine wp_cut (fun w' => Below B w0 w' ∧ B ≤ w'.heap.size ∧ RdT w' A n c b.vals ∧ Bk w' w.heap.size 32 #[.int .i64 b.time, .int .i64 b.prod, .int .i64 b.seq, .slice A n c]) ⟨HB1.out, by simp; omega, HR1.out, HBK.out⟩ ?_
  rintro w1 ⟨hB1, hs1, hr1, hbk⟩
  have FS : Hid (∀ w', Below w1.heap.size w1 w' → (Below w1.heap.size w1 w' ∧ w'.cell? ⟨w.heap.size, 0, none⟩ = some (.int .i64 b.time) ∧ w'.cell? ⟨w.heap.size, 1, none⟩ = some (.int .i64 b.prod) ∧ w'.cell? ⟨w.heap.size, 2, none⟩ = some (.int .i64 b.seq) ∧ w'.cell? ⟨w.heap.size, 3, none⟩ = some (.slice A n c))) := fun w' hb =>
    ⟨hb, ((hbk.ext hb).cell 0).trans rfl, ((hbk.ext hb).cell 1).trans rfl, ((hbk.ext hb).cell 2).trans rfl, ((hbk.ext hb).cell 3).trans rfl⟩
  have HB1 := Lib.hid hB1
  have HR1 := Lib.hid hr1
  have r0 := below_drew1 (Below.refl w1.heap.size w1)
  have r1 := below_drew1 ((Below.refl w1.heap.size w1).alloc (Nat.le_refl _) (.cells #[.int .i64 b.time, .string ⟨#[]⟩, .slice none 0 0, .int .i64 b.prod, .string ⟨#[]⟩, .slice none 0 0, .int .i64 b.seq, .string ⟨#[]⟩, .slice none 0 0, .int .i64 0, .string ⟨#[]⟩, .slice A n c] 150))
  clear HBK hB1 hr1 hbk
  go_region_held3 (fun w' => Below w1.heap.size w1 w' ∧ w'.cell? ⟨w.heap.size, 0, none⟩ = some (.int .i64 b.time) ∧ w'.cell? ⟨w.heap.size, 1, none⟩ = some (.int .i64 b.prod) ∧ w'.cell? ⟨w.heap.size, 2, none⟩ = some (.int .i64 b.seq) ∧ w'.cell? ⟨w.heap.size, 3, none⟩ = some (.slice A n c)) (first | exact FS.out _ r0 | exact FS.out _ hb4 | exact FS.out _ (hb3.alloc hs3 _) | exact FS.out _ hb3 | exact FS.out _ r1) (first | (go_at_call 108; (with_reducible refine (bfields_any w1.drew w1 w1.heap.size r0 r0.size).mono ?_); rintro e w3 ⟨g3, rfl, hf3, hb3, hs3, hx3⟩; have HF4 := Lib.hid (hf3.ext (below_new w3 (.cells #[.int .i64 b.time, .string ⟨#[]⟩, .slice none 0 0, .int .i64 b.prod, .string ⟨#[]⟩, .slice none 0 0, .int .i64 b.seq, .string ⟨#[]⟩, .slice none 0 0, .int .i64 0, .string ⟨#[]⟩, .slice A n c] 150))); have HV4 := Lib.hid (rdV_batM (Bk.made w3 150 _) (HR1.out.ext (hb3.alloc hs3 (.cells #[.int .i64 b.time, .string ⟨#[]⟩, .slice none 0 0, .int .i64 b.prod, .string ⟨#[]⟩, .slice none 0 0, .int .i64 b.seq, .string ⟨#[]⟩, .slice none 0 0, .int .i64 0, .string ⟨#[]⟩, .slice A n c] 150)))); have hb4' := hb3.alloc hs3 (.cells #[.int .i64 b.time, .string ⟨#[]⟩, .slice none 0 0, .int .i64 b.prod, .string ⟨#[]⟩, .slice none 0 0, .int .i64 b.seq, .string ⟨#[]⟩, .slice none 0 0, .int .i64 0, .string ⟨#[]⟩, .slice A n c] 150)) | (go_at_call 108; (with_reducible refine (bfields_any (w1.alloc (.cells #[.int .i64 b.time, .string ⟨#[]⟩, .slice none 0 0, .int .i64 b.prod, .string ⟨#[]⟩, .slice none 0 0, .int .i64 b.seq, .string ⟨#[]⟩, .slice none 0 0, .int .i64 0, .string ⟨#[]⟩, .slice A n c] 150)).drew w1 w1.heap.size r1 r1.size).mono ?_); rintro e w3 ⟨g3, rfl, hf3, hb3, hs3, hx3⟩; have HF4 := Lib.hid hf3; have HV4 := Lib.hid (rdV_batM (b := b) ((Bk.drawn1 (Bk.made w1 150 _)).ext hx3) (HR1.out.ext hb3)); have hb4' := hb3) | (go_at_call 44; (with_reducible refine (fput_r _ 4 4 batF _ 4 4 (batM b A n c) _ bat_some HF4.out HV4.out (by omega) w1 w1.heap.size hb4' hb4'.size).mono ?_); rintro e w4 ⟨A4, M4, c4, v4, rfl, hp4, hb4⟩) | fail)
  all_goals
    go_wp2_with fail
    go_ret2
    exact ⟨_, _, _, _, rfl, hp4.more hs1, HB1.out.trans (below_le hs1 hb4)⟩
end Go.Proofs.YtjodiieeocaipaaGreatDoor

/-
  batch: Right, Put.
-/
namespace Go.Proofs.YtjodiieeocaipaaGreatDoor
open Go.RowKit

def Bat.cells (b : Bat) (A : Option Addr) (n c : Nat) : List Value := [.int .i64 b.time, .int .i64 b.prod, .int .i64 b.seq, .slice A n c]
def ldB (v : Value) : Sem Value := Instr.loadAt 32 v
theorem ldB_eq (v : Value) : Instr.loadAt 32 v = ldB v := rfl
theorem size_b : (Tryz.prog.info? 32).map (·.size) = some 4 := by kernel_rfl
theorem ldB_at {w : World} {g o : Nat} {b : Bat} {A : Option Addr} {n c : Nat} (h : ∀ j u, (b.cells A n c)[j]? = some u → w.cell? ⟨g, o + j, none⟩ = some u) : (ldB (.pointer (some ⟨g, o, none⟩))).run Tryz.prog w = .ok (.agg #[.int .i64 b.time, .int .i64 b.prod, .int .i64 b.seq, .slice A n c]) w := by
  exact run_loadAt_mid w g o 32 (b.cells A n c) _ h Tryz.underlying32 rfl size_b
theorem ldB_bk {w : World} {g : Nat} {b : Bat} {A : Option Addr} {n c : Nat} (h : Bk w g 32 #[.int .i64 b.time, .int .i64 b.prod, .int .i64 b.seq, .slice A n c]) : (ldB (.pointer (some ⟨g, 0, none⟩))).run Tryz.prog w = .ok (.agg #[.int .i64 b.time, .int .i64 b.prod, .int .i64 b.seq, .slice A n c]) w :=
  ldB_at (fun j u hu => by rw [Nat.zero_add, h.cell, ← hu]; simp [Bat.cells])
attribute [local go_sem ↓] ldB_eq
set_option maxRecDepth 100000 in
set_option maxHeartbeats 2000000 in
theorem bRight_any (b : Bat) (A : Option Addr) (n c : Nat) (w : World) (hr : RdT w A n c b.vals) (w0 : World) (B : Nat) (hb : Below B w0 w) (hB : B ≤ w.heap.size) :
    Calls Tryz.prog 98 #[.agg #[.int .i64 b.time, .int .i64 b.prod, .int .i64 b.seq, .slice A n c]] w fun e w' => e = .returned (.bool (rightB b)) ∧ Below B w0 w' := by
  have hbn := below_new w (.cells #[.int .i64 b.time, .int .i64 b.prod, .int .i64 b.seq, .slice A n c] 32)
  have hB1 := hb.alloc hB (.cells #[.int .i64 b.time, .int .i64 b.prod, .int .i64 b.seq, .slice A n c] 32)
  have hP := bput_any b A n c _ (hr.ext hbn) _ _ (Below.refl (w.alloc (.cells #[.int .i64 b.time, .int .i64 b.prod, .int .i64 b.seq, .slice A n c] 32)).heap.size _) (Nat.le_refl _)
  have hbk := Bk.made w 32 #[.int .i64 b.time, .int .i64 b.prod, .int .i64 b.seq, .slice A n c]
  have hld := ldB_bk hbk
  have HP := Lib.hid hP
  have HBK := Lib.hid hbk
  have HB1 := Lib.hid hB1
  have hsz : Hid (B ≤ (w.alloc (.cells #[.int .i64 b.time, .int .i64 b.prod, .int .i64 b.seq, .slice A n c] 32)).heap.size) := by show _ ≤ _; simp; omega
  clear hP hbk hbn hB1
  unfold rightB
  cases hok : okAll batF (batV b)
  case' true =>
    by_cases hp : 0 < b.prod
  all_goals
    go_enter Tryz.func98, Tryz.ntmps98
    go_wp2_with fail
    refine HP.out.mono ?_
    rintro e w1 ⟨A1, M1, c1, v1, rfl, hp1, hb1⟩
    have hnil := hp1.nil
    have hgd := hp1.guard 10
    rw [hok] at hnil
    have hbk1 := HBK.out.ext hb1
    have c1 : w1.cell? ⟨w.heap.size, 1, none⟩ = some (.int .i64 b.prod) := hbk1.cell 1
    have c2 : w1.cell? ⟨w.heap.size, 2, none⟩ = some (.int .i64 b.seq) := hbk1.cell 2
    clear hbk1
    go_wp2_with fail
    go_ret
    refine ⟨ret_bool ?_, HB1.out.trans (below_le hsz.out hb1)⟩
    first | rfl | (simp <;> omega) | (simp; try omega)
set_option maxRecDepth 100000 in
set_option maxHeartbeats 2000000 in
theorem bPut_any (b : Bat) (A : Option Addr) (n c : Nat) (w : World) (hr : RdT w A n c b.vals) (w0 : World) (B : Nat) (hb : Below B w0 w) (hB : B ≤ w.heap.size) :
    Calls Tryz.prog 70 #[.agg #[.int .i64 b.time, .int .i64 b.prod, .int .i64 b.seq, .slice A n c]] w fun e w' => ∃ A' M c', e = .returned (.slice A' M c') ∧ OwnB w' B (.slice A' M c') (putB b) ∧ Below B w0 w' := by
  have hbn := below_new w (.cells #[.int .i64 b.time, .int .i64 b.prod, .int .i64 b.seq, .slice A n c] 32)
  have hB1 := hb.alloc hB (.cells #[.int .i64 b.time, .int .i64 b.prod, .int .i64 b.seq, .slice A n c] 32)
  have hR := bRight_any b A n c _ (hr.ext hbn) _ _ (Below.refl (w.alloc (.cells #[.int .i64 b.time, .int .i64 b.prod, .int .i64 b.seq, .slice A n c] 32)).heap.size _) (Nat.le_refl _)
  have hbk := Bk.made w 32 #[.int .i64 b.time, .int .i64 b.prod, .int .i64 b.seq, .slice A n c]
  have hld := ldB_bk hbk
  have HBK := Lib.hid hbk
  have HB1 := Lib.hid hB1
  have HRT := Lib.hid (hr.ext hbn)
  have hsz : Hid (B ≤ (w.alloc (.cells #[.int .i64 b.time, .int .i64 b.prod, .int .i64 b.seq, .slice A n c] 32)).heap.size) := by show _ ≤ _; simp; omega
  clear hbk hbn hB1
  unfold putB
  cases hok : rightB b
  · rw [hok] at hR
    have HR := Lib.hid hR
    clear hR
    go_enter Tryz.func70, Tryz.ntmps70
    go_wp2_with fail
    refine HR.out.mono ?_
    rintro e w1 ⟨rfl, hb1⟩
    go_wp2_with fail
    go_ret
    exact ⟨none, 0, 0, rfl, OwnB.nil _ _, HB1.out.trans (below_le hsz.out hb1)⟩
  · rw [hok] at hR
    have HR := Lib.hid hR
    have hall : okAll batF (batV b) = true := by unfold rightB at hok; rw [Bool.and_eq_true] at hok; exact hok.1
    have Hall := Lib.hid hall
    clear hR hall
    go_enter Tryz.func70, Tryz.ntmps70
    go_wp2_with fail
    refine HR.out.mono ?_
    rintro e w1 ⟨rfl, hb1⟩
    have hbk1 := HBK.out.ext hb1
    have hld1 := ldB_bk hbk1
    have hB2 := HB1.out.trans (below_le hsz.out hb1)
    have hP := bput_any b A n c w1 (HRT.out.ext hb1) w0 B hB2 (Nat.le_trans hsz.out hb1.size)
    have HP := Lib.hid hP
    clear hP hld hbk1
    go_wp2_with fail
    refine HP.out.mono ?_
    rintro e w2 ⟨A2, M2, c2, v2, rfl, hp2, hb2⟩
    rcases hp2 with ⟨_, rfl, ho⟩ | ⟨hno, _⟩
    · go_wp2_with fail
      go_ret
      exact ⟨_, _, _, rfl, ho, hb2⟩
    · rw [Hall.out] at hno; cases hno
end Go.Proofs.YtjodiieeocaipaaGreatDoor
