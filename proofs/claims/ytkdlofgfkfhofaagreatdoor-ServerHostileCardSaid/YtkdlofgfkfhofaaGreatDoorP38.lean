import Derived.Test.YtkdlofgfkfhofaaGreatDoorP37
import Derived.Test.YtkdlofgfkfhofaaGreatDoorP36
/-
  broker: Serve, of one that has no topics.
-/
namespace Go.Proofs.YtkdlofgfkfhofaaGreatDoor
open Go.RowKit Go.Maps

/-- the waits of a broker: a slice of its own -/
def OwnWt (w : World) (B : Nat) (v : Value) (q : Nat) : Prop := ∃ xs, w.ownsRow B 205 15 v q xs
/-- what Serve's reply is, to an ask that is right -/
def servE (k : Int) : Int := if k = 6 then 0 else 10
theorem results_mid {fn : Func} {p u u2 : Tmp} {ty : TypeId} (h : fn.results = #[.tmp u, .cell p ty, .tmp u2]) (tmps : Array Value) (P : Program) (w : World) :
    (results fn tmps).run P w =
      ((asAddr (tmps.getD p undef)).run P w).andThen fun a w₁ => ((loadVar ty a).run P w₁).andThen fun v w₂ => .ok (.tuple #[tmps.getD u undef, v, tmps.getD u2 undef]) w₂ := by
  simp only [results, h]
  simp [Sem.run_bind, Result.andThen]
theorem res_serve {fn : Func} {p u u2 : Tmp} (h : fn.results = #[.tmp u, .cell p 43, .tmp u2]) (tmps : Array Value) (w : World) (g : Nat) (co er ba nx : Int) (hp : tmps.getD p undef = .pointer (some ⟨g, 0, none⟩)) (hb : Bk w g 43 (rpC co er ba nx)) :
    (results fn tmps).run Tryz.prog w = .ok (.tuple #[tmps.getD u undef, .agg (rpC co er ba nx), tmps.getD u2 undef]) w := by
  rw [results_mid h, hp]
  simp only [asAddr, Sem.run_pure, Result.andThen_ok, run_loadVar_row w g _ _ _ (0, 0) _ hb Tryz.underlying43 rfl size_rp]
theorem bRead_any {w : World} {b r t g s tb gr : Nat} {me ws : Value} {last : Int} {cf : CfgM} (hB : BrkAt w b r t g s tb gr me ws last cf) (a : Ask) (A : Option Addr) (n c : Nat) (hL : ErrLaid w) (ha : rightA a = true) (hw : writK a.kind = false) :
    Calls Tryz.prog 110 #[.pointer (some ⟨b, 0, none⟩), .agg (askC a.corr a.kind a.topic a.group a.part a.parts a.first a.off a.most a.time a.bat.time a.bat.prod a.bat.seq A n c)] w fun e w' => e = .returned (.agg (rpC a.corr (servE a.kind) 0 0)) ∧ Below w.heap.size w w' := by
  obtain ⟨⟨h0, h1⟩, hh⟩ := rightA_facts ha
  have hr : readsA a = true := by
    rcases hh with ⟨h, _⟩ | ⟨_, h⟩
    · rw [hw] at h; cases h
    · exact h
  unfold servE
  by_cases hk : a.kind = 6
  · rw [if_pos hk, hk]
    exact bReadList_any hB a.corr a.topic a.group a.part a.parts a.first a.off a.most a.time a.bat.time a.bat.prod a.bat.seq A n c
  · rw [if_neg hk]
    have hn := (reads_facts hr).2.2.2.2.1.resolve_left hk
    exact bReadNone_any hB a.corr a.kind a.topic a.group a.part a.parts a.first a.off a.most a.time a.bat.time a.bat.prod a.bat.seq A n c hL h0 h1 (by simpa using hk) (by
      unfold nameOk at hn
      simp only [Bool.and_eq_true, decide_eq_true_eq] at hn
      have := hn.1.2
      unfold maxLen
      omega)
attribute [local go_sem ↓] ldRp_eq stRp_eq ldA_eq
set_option maxRecDepth 100000 in
set_option maxHeartbeats 4000000 in
theorem bServe_any {w : World} {r b t g s tb gr : Nat} {me ws : Value} {last : Int} {c : CfgM} (hB : BrkAt w b r t g s tb gr me ws last c) (hL : ErrLaid w) (hbt : b < t ∧ b < g ∧ b < s ∧ b < tb) (hlt : t < w.heap.size ∧ g < w.heap.size ∧ s < w.heap.size ∧ tb < w.heap.size) (hl0 : 0 ≤ last) (hl1 : last ≤ 1000000)
    (a : Ask) (A : Option Addr) (m cp : Nat) (hr : RdT w A m cp a.bat.vals) (hAb : ∀ ad, A = some ad → ad.block ≠ b) (ha : rightA a = true) (hw : writK a.kind = false) :
    Calls Tryz.prog 64 #[.pointer (some ⟨b, 0, none⟩), .agg (askC a.corr a.kind a.topic a.group a.part a.parts a.first a.off a.most a.time a.bat.time a.bat.prod a.bat.seq A m cp)] w fun e w' => e = .returned (.tuple #[.int .i64 (last + 1), .agg (rpC a.corr (servE a.kind) 0 0), .bool true]) ∧ BrkAt w' b r t g s tb gr me ws (last + 1) c ∧ Turned (fun i => i = b) w w' := by
  have hl63 : wrap64 (last + 1) = last + 1 := by unfold wrap64; omega
  have hb1 := below_new w (.cells (askC a.corr a.kind a.topic a.group a.part a.parts a.first a.off a.most a.time a.bat.time a.bat.prod a.bat.seq A m cp) 32)
  have hb2 := hb1.trans (below_le hb1.size (below_new (w.alloc (.cells (askC a.corr a.kind a.topic a.group a.part a.parts a.first a.off a.most a.time a.bat.time a.bat.prod a.bat.seq A m cp) 32)) (.cells #[.int .i64 0, .int .i64 0, .int .i64 0, .int .i64 0, .slice none 0 0, .slice none 0 0] 43)))
  have hB2 := hB.ext hb2
  have c6 : ((w.alloc (.cells (askC a.corr a.kind a.topic a.group a.part a.parts a.first a.off a.most a.time a.bat.time a.bat.prod a.bat.seq A m cp) 32)).alloc (.cells #[.int .i64 0, .int .i64 0, .int .i64 0, .int .i64 0, .slice none 0 0, .slice none 0 0] 43)).cell? ⟨b, 6, none⟩ = some (.int .i64 last) := hB2.bk.cell 6
  have z6 : ((w.alloc (.cells (askC a.corr a.kind a.topic a.group a.part a.parts a.first a.off a.most a.time a.bat.time a.bat.prod a.bat.seq A m cp) 32)).alloc (.cells #[.int .i64 0, .int .i64 0, .int .i64 0, .int .i64 0, .slice none 0 0, .slice none 0 0] 43)).frozen? ⟨b, 6, none⟩ = false := hB2.bk.thaw 6
  have hka := (Bk.made w 32 (askC a.corr a.kind a.topic a.group a.part a.parts a.first a.off a.most a.time a.bat.time a.bat.prod a.bat.seq A m cp)).ext (below_new _ (.cells #[.int .i64 0, .int .i64 0, .int .i64 0, .int .i64 0, .slice none 0 0, .slice none 0 0] 43))
  have hkr := Bk.made_at (w.alloc (.cells (askC a.corr a.kind a.topic a.group a.part a.parts a.first a.off a.most a.time a.bat.time a.bat.prod a.bat.seq A m cp) 32)) (w.heap.size + 1) 43 #[.int .i64 0, .int .i64 0, .int .i64 0, .int .i64 0, .slice none 0 0, .slice none 0 0] (by simp)
  have hne : w.heap.size ≠ b ∧ w.heap.size + 1 ≠ b := by have := hB.bk.lt; omega
  have HW2 : Hid (∀ X, X = (w.alloc (.cells (askC a.corr a.kind a.topic a.group a.part a.parts a.first a.off a.most a.time a.bat.time a.bat.prod a.bat.seq A m cp) 32)).alloc (.cells #[.int .i64 0, .int .i64 0, .int .i64 0, .int .i64 0, .slice none 0 0, .slice none 0 0] 43) → ∀ Y, Y = X.setCell ⟨b, 6, none⟩ (.int .i64 (last + 1)) → BrkAt Y b r t g s tb gr me ws (last + 1) c ∧ Turned (fun i => i = b) w Y ∧ Bk Y w.heap.size 32 (askC a.corr a.kind a.topic a.group a.part a.parts a.first a.off a.most a.time a.bat.time a.bat.prod a.bat.seq A m cp) ∧ Bk Y (w.heap.size + 1) 43 #[.int .i64 0, .int .i64 0, .int .i64 0, .int .i64 0, .slice none 0 0, .slice none 0 0] ∧ RdT Y A m cp a.bat.vals) := by
    rintro X rfl Y rfl
    have hx := (⟨hB2.bk, (Turned.of_below hb2)⟩ : BrW w _ b _).put 6 (.int .i64 (last + 1))
    have hy := (⟨hB2.bk, Turned.refl _ _⟩ : BrW _ _ b _).put 6 (.int .i64 (last + 1))
    exact ⟨⟨hx.bk, hB2.tp.turned hy.tu (by omega), hB2.vo.turned hy.tu (by omega), hB2.st.turned hy.tu (by omega) (by omega)⟩, hx.tu, hka.turned hy.tu hne.1, hkr.turned hy.tu hne.2, RdT.kept (hr.ext hb2) (grown_set _ ⟨b, 6, none⟩ _) (fun ad e e2 => hAb ad e (Option.some.inj e2).symm)⟩
  have HA := Lib.hid ha
  have HWk := Lib.hid hw
  have hY := HW2.out _ rfl _ rfl
  have hlda := ldA_bk hY.2.2.1
  have HLa := Lib.hid hL
  have HBl := Lib.hid hB.bk.lt
  have hG : 0 ≠ b := fun e => by
    have h1 : w.cell? ⟨b, 0, none⟩ = some (.pointer (some ⟨r, 0, none⟩)) := hB.bk.cell 0
    have key : ∀ (G : Nat) (u : TypeId) (x : Value), G = b → w.cell? ⟨G, 0, none⟩ = some (.iface u x) → False := by
      rintro G u x rfl h2
      rw [h1] at h2
      cases h2
    exact key _ _ _ e hL
  have HEo : Hid (∀ Y, Turned (fun i => i = b) w Y → ErrLaid Y) := fun Y hT => (turned_cell hT (cell_lt hL) (fun e => hG e)).trans hL
  clear hG hb1 hb2 hB2 hka hkr hne hL hB hr hAb HW2 ha hw
  go_enter Tryz.func64, Tryz.ntmps64
  go_wp2_with fail
  generalize ((w.alloc (.cells (askC a.corr a.kind a.topic a.group a.part a.parts a.first a.off a.most a.time a.bat.time a.bat.prod a.bat.seq A m cp) 32)).alloc (.cells #[.int .i64 0, .int .i64 0, .int .i64 0, .int .i64 0, .slice none 0 0, .slice none 0 0] 43)).setCell ⟨b, 6, none⟩ (.int .i64 (last + 1)) = w2 at hY hlda ⊢
  have HY := Lib.hid hY
  have HR := Lib.hid (aRight_any a A m cp w2 hY.2.2.2.2 true HA.out)
  clear hY hlda
  with_reducible refine HR.out.mono ?_
  rintro er w3 ⟨rfl, hb3⟩
  have HB3 := Lib.hid (HY.out.1.ext hb3)
  have HT3 := Lib.hid (HY.out.2.1.then_below hb3)
  have HA3 := Lib.hid (HY.out.2.2.1.ext hb3)
  have HP3 := Lib.hid (HY.out.2.2.2.1.ext hb3)
  have c1 : w3.cell? ⟨b, 1, none⟩ = some (.pointer (some ⟨t, 0, none⟩)) := HB3.out.bk.cell 1
  have ck : w3.cell? ⟨w.heap.size, 1, none⟩ = some (.int .i64 a.kind) := HA3.out.cell 1
  have HW := Lib.hid (fun v => writes_any a.kind v)
  rw [HWk.out] at HW
  clear hb3 HY HR
  go_wp2_with (first | (go_at_call 55; go_loud (with_reducible refine (HW.out _).mono ?_); go_loud (rintro er w4 ⟨rfl, rfl⟩)) | fail)
  clear c1 ck
  have hszl : w.heap.size ≤ w3.heap.size := HT3.out.size
  have hbl : b < w.heap.size := HBl.out
  generalize hGp : w.heap.size + 1 = gp at HP3 ⊢
  generalize hGc : w.heap.size = gc at HA3 ⊢
  have hne : gc ≠ gp := by omega
  have hne2 : b ≠ gp := by omega
  have HLe : Hid (w.heap.size ≤ gp) := by show _ ≤ _; omega
  clear hGp hGc
  have HR3 : Hid (∀ v, Below w3.heap.size w3 v → Calls Tryz.prog 110 #[.pointer (some ⟨b, 0, none⟩), .agg (askC a.corr a.kind a.topic a.group a.part a.parts a.first a.off a.most a.time a.bat.time a.bat.prod a.bat.seq A m cp)] v fun e w' => e = .returned (.agg (rpC a.corr (servE a.kind) 0 0)) ∧ Below v.heap.size v w') := fun v hv => bRead_any (HB3.out.ext hv) a A m cp ((HEo.out _ HT3.out).below hv) HA.out HWk.out
  have FS : Hid (∀ v, Below w3.heap.size w3 v → (v.cell? ⟨b, 6, none⟩ = some (.int .i64 (last + 1)) ∧ (ldA (.pointer (some ⟨gc, 0, none⟩))).run Tryz.prog v = .ok (.agg (askC a.corr a.kind a.topic a.group a.part a.parts a.first a.off a.most a.time a.bat.time a.bat.prod a.bat.seq A m cp)) v ∧ (∀ e', (stRp (.pointer (some ⟨gp, 0, none⟩)) (.agg #[.int .i64 a.corr, .int .i64 e', .int .i64 0, .int .i64 0, .slice none 0 0, .slice none 0 0])).run Tryz.prog v = .ok () (v.setRow gp (rpC a.corr e' 0 0))))) := fun v hv => ⟨(HB3.out.ext hv).bk.cell 6, ldA_bk (HA3.out.ext hv), fun e' => stRp_bk rfl (HP3.out.ext hv) a.corr e' 0 0⟩
  have FS2 : Hid (∀ v, Below w3.heap.size w3 v → ∀ row : Array Value, row.size = 6 → (fun v => v.cell? ⟨b, 6, none⟩ = some (.int .i64 (last + 1)) ∧ (ldA (.pointer (some ⟨gc, 0, none⟩))).run Tryz.prog v = .ok (.agg (askC a.corr a.kind a.topic a.group a.part a.parts a.first a.off a.most a.time a.bat.time a.bat.prod a.bat.seq A m cp)) v ∧ (∀ e', (stRp (.pointer (some ⟨gp, 0, none⟩)) (.agg #[.int .i64 a.corr, .int .i64 e', .int .i64 0, .int .i64 0, .slice none 0 0, .slice none 0 0])).run Tryz.prog v = .ok () (v.setRow gp (rpC a.corr e' 0 0)))) (v.setRow gp row)) := fun v hv row hr => ⟨((HB3.out.ext hv).bk.row_far row hne2).cell 6, ldA_bk ((HA3.out.ext hv).row_far row hne), fun e' => stRp_bk hr ((HP3.out.ext hv).row row) a.corr e' 0 0⟩
  have B0 : Hid (Below w3.heap.size w3 w3.drew) := below_drew1 (Below.refl _ _)
  clear HW
  go_region_held3 (fun v => v.cell? ⟨b, 6, none⟩ = some (.int .i64 (last + 1)) ∧ (ldA (.pointer (some ⟨gc, 0, none⟩))).run Tryz.prog v = .ok (.agg (askC a.corr a.kind a.topic a.group a.part a.parts a.first a.off a.most a.time a.bat.time a.bat.prod a.bat.seq A m cp)) v ∧ (∀ e', (stRp (.pointer (some ⟨gp, 0, none⟩)) (.agg #[.int .i64 a.corr, .int .i64 e', .int .i64 0, .int .i64 0, .slice none 0 0, .slice none 0 0])).run Tryz.prog v = .ok () (v.setRow gp (rpC a.corr e' 0 0)))) (first | exact FS.out _ B0.out | exact FS.out _ B4.out | exact FS2.out _ B4.out _ rfl) (first | (go_at_call 110; go_loud ((with_reducible refine (HR3.out _ B0.out).mono ?_); rintro er w4 ⟨rfl, hb4⟩; have B4 := Lib.hid (B0.out.trans (below_le B0.out.size hb4)); clear hb4)) | fail)
  all_goals
    have HX := Lib.hid ((HP3.out.ext B4.out).row (rpC a.corr (servE a.kind) 0 0))
    have hg4 : w4.grownBy (w4.setRow gp (rpC a.corr (servE a.kind) 0 0)) (some gp) := grown_row _ _ _
    have ht4 : Turned (fun i => i = gp) w4 (w4.setRow gp (rpC a.corr (servE a.kind) 0 0)) := Turned.of_grown hg4 (fun _ e => (Option.some.inj e).symm)
    have hB4 := HB3.out.ext B4.out
    have q1 := hlt
    have q2 := HLe.out
    have HBX : Hid (BrkAt (w4.setRow gp (rpC a.corr (servE a.kind) 0 0)) b r t g s tb gr me ws (last + 1) c) := ⟨hB4.bk.turned ht4 hne2, hB4.tp.turned ht4 (by omega), hB4.vo.turned ht4 (by omega), hB4.st.turned ht4 (by omega) (by omega)⟩
    have HTX : Hid (Turned (fun i => i = b) w (w4.setRow gp (rpC a.corr (servE a.kind) 0 0))) := (HT3.out.then_below B4.out).then_grown hg4 (fun k e => .inr (by rw [← Option.some.inj e]; exact HLe.out))
    clear hg4 ht4 hB4
    try go_wp2_with fail
    exact bodyPost_ret (res_serve rfl _ _ gp a.corr (servE a.kind) 0 0 rfl HX.out) rfl ⟨rfl, HBX.out, HTX.out⟩
end Go.Proofs.YtkdlofgfkfhofaaGreatDoor

/-
  server: body.
-/
namespace Go.Proofs.YtkdlofgfkfhofaaGreatDoor
open Go.RowKit Go.Maps

/-- what a frame is told -/
def evR (e : Ev) : Int × Int := match e with
  | .big => (0, 11)
  | .frame x => match getA x with
    | .error k => k
    | .ok a => (a.corr, servE a.kind)
def evB (e : Ev) : List UInt8 := frB (evR e).1 (evR e).2
/-- frames taken, one behind the other -/
inductive Rn (l : List UInt8) (p : Nat) : List Ev → List UInt8 → Nat → Prop where
  | nil : Rn l p [] l p
  | snoc {E : List Ev} {l1 : List UInt8} {p1 : Nat} {e : Ev} {l2 : List UInt8} {p2 : Nat} : Rn l p E l1 p1 → stepM l1 p1 = some (e, l2, p2) → Rn l p (E ++ [e]) l2 p2
theorem pass_le (l : List UInt8) (p : Nat) : (passM l p).length ≤ l.length := by
  unfold passM
  rw [List.length_drop]
  omega
theorem step_less {l : List UInt8} {p : Nat} {e : Ev} {l2 : List UInt8} {p2 : Nat} (h : stepM l p = some (e, l2, p2)) : l2.length + 2 ≤ l.length ∧ p2 ≤ max p 65535 := by
  have h1 := pass_le l p
  unfold stepM at h
  split at h
  · rename_i x y r hp
    rw [hp] at h1
    simp only [List.length_cons] at h1
    have hxy : len2 x y ≤ 65535 := by
      unfold len2
      have := x.toNat_lt
      have := y.toNat_lt
      omega
    split at h
    · split at h
      · cases h
      · simp only [Option.some.injEq, Prod.mk.injEq] at h
        obtain ⟨_, rfl, rfl⟩ := h
        unfold leftM
        rw [List.length_drop]
        omega
    · simp only [Option.some.injEq, Prod.mk.injEq] at h
      obtain ⟨_, rfl, rfl⟩ := h
      omega
  · cases h
theorem Rn.less {l : List UInt8} {p : Nat} {E : List Ev} {l2 : List UInt8} {p2 : Nat} (h : Rn l p E l2 p2) : l2.length + 2 * E.length ≤ l.length ∧ p2 ≤ max p 65535 := by
  induction h with
  | nil => simp; omega
  | snoc _ hs ih =>
    have := step_less hs
    rw [List.length_append, List.length_singleton]
    omega
theorem evB_len (e : Ev) : (evB e).length = 25 := frB_len _ _
theorem outs_len (E : List Ev) : (E.flatMap evB).length = 25 * E.length := by
  induction E with
  | nil => rfl
  | cons e r ih => rw [List.flatMap_cons, List.length_append, ih, evB_len, List.length_cons]; omega
theorem or2 (x y : UInt8) : bits .or .i64 (w8 x) (wrap64 (w8 y * 256)) = (len2 x y : Int) := by
  have h0 := x.toNat_lt
  have h1 := y.toNat_lt
  have s1 := or_step x.toNat 1 y (by omega) (by omega)
  simp only [Nat.reduceMul, Int.reducePow, Nat.reducePow] at s1
  rw [wrapN_small _ (by omega), wrapN_small _ (by omega)] at s1
  rw [show w8 x = (x.toNat : Int) from rfl, s1]
  unfold len2
  omega
theorem two_bytes {w : World} {A : Option Addr} {n c : Nat} {x y : UInt8} {r : List UInt8} (h : RdB w A n c (x :: y :: r)) : ∃ ad, A = some ad ∧ w.cell? (ad.add 0) = some (.int .u8 (w8 x)) ∧ w.cell? (ad.add 1) = some (.int .u8 (w8 y)) := by
  obtain ⟨ad, rfl, hw, d0⟩ := Rd.cell h 0 (.int .u8 (w8 x)) rfl
  obtain ⟨a1, e1, _, d1⟩ := Rd.cell h 1 (.int .u8 (w8 y)) rfl
  injection e1 with e1
  subst e1
  exact ⟨_, rfl, d0, d1⟩
/-- how many bytes wait in a connection -/
def svLen (w : World) (sv i : Nat) : Nat := match w.cell? ⟨sv, 1 + 4 * i, none⟩ with
  | some (.slice _ n _) => n
  | _ => 0
theorem CnAt.len {w : World} {cs : Nat → CV} {sv b i : Nat} {l : List UInt8} {p : Nat} {out : List UInt8} (hi : i < 4) (hS : Bk w sv 81 (svA b cs)) (h : CnAt w (cs i) sv b l p out) : svLen w sv i = l.length := by
  obtain ⟨A, n, c, h1, h2, _⟩ := h.inp
  unfold svLen
  rw [hS.cell, (svA_get cs hi).1, h1]
  exact h2.len.symm
attribute [local go_sem ↓] sliced_past
attribute [local go_sem] pastA_zero w8_nn w8_256 wrap_i64_w8 wrap64_w8 or2
theorem upC_self (cs : Nat → CV) (i : Nat) : upC cs i (cs i) = cs := by
  funext j
  unfold upC
  split
  · rename_i h; rw [h]
  · rfl
set_option maxRecDepth 100000 in
set_option maxHeartbeats 4000000 in
theorem svBody_any {w : World} {sv b i : Nat} {cs : Nat → CV} (hS : Bk w sv 81 (svA b cs)) (hi : i < 4) {l : List UInt8} {p : Nat} {out : List UInt8} (hC : CnAt w (cs i) sv b l p out) (hl : out.length + 25 * l.length ≤ 800000) (hp : p ≤ 900000) (hsb : b < sv) :
    Calls Tryz.prog 62 #[.pointer (some ⟨sv, 1 + 4 * i, none⟩)] w fun e w' => ∃ E l2 p2 v, Rn l p E l2 p2 ∧ (∀ x ∈ E, x = Ev.big) ∧ v.aw = (cs i).aw ∧ SvW w w' sv b (upC cs i v) ∧
      ((stepM l2 p2 = none ∧ e = .returned (.tuple #[.slice none 0 0, .bool false]) ∧ CnAt w' v sv b (passM l2 p2) (leftM l2 p2) (out ++ E.flatMap evB)) ∨
      (∃ x l3 p3 A n c, stepM l2 p2 = some (.frame x, l3, p3) ∧ e = .returned (.tuple #[.slice A n c, .bool true]) ∧ RdB w' A n c x ∧ (∀ ad, A = some ad → ad.block ≠ sv ∧ ad.block ≠ b) ∧ CnAt w' v sv b l3 p3 (out ++ E.flatMap evB))) := by
  have HS := Lib.hid hS
  have HC := Lib.hid hC
  clear hS hC
  go_enter Tryz.func62, Tryz.ntmps62
  go_wp2_with fail
  go_loopw [4] (fun _ wr => ∃ E l1 p1 v, Hid (Rn l p E l1 p1) ∧ Hid (∀ x ∈ E, x = Ev.big) ∧ v.aw = (cs i).aw ∧ Hid (SvW w wr sv b (upC cs i v)) ∧ Hid (CnAt wr v sv b l1 p1 (out ++ E.flatMap evB))) (fun _ wr => svLen wr sv i)
  case atStart => exact ⟨[], l, p, cs i, Rn.nil, (fun _ h => absurd h List.not_mem_nil), rfl, ⟨by rw [upC_self]; exact HS.out, Turned.refl _ _⟩, by rw [List.flatMap_nil, List.append_nil]; exact HC.out⟩
  case round =>
    obtain ⟨E, l1, p1, v, hR, hE, hv, hS, hC⟩ := hrel
    clear HC
    have hless := hR.out.less
    have hCv : CnAt wr (upC cs i v i) sv b l1 p1 (out ++ E.flatMap evB) := by rw [upC_same]; exact hC.out
    have HP := Lib.hid (pass_any hS.out.bk hi hCv (by omega))
    have HLw : Hid (svLen wr sv i = l1.length) := CnAt.len hi hS.out.bk hCv
    clear hCv
    go_upto_region 2 with (first | (go_at_call 107; go_loud (with_reducible refine HP.out.mono ?_); go_loud (rintro er w2 ⟨rfl, v2, hS2, hC2, hv2⟩)) | fail)
    rw [upC_up] at hS2
    rw [upC_same] at hv2
    have hpl := pass_le l1 p1
    have hplm : (leftM l1 p1 : Int) ≤ 900000 := by unfold leftM; omega
    have hS3 : SvW w w2 sv b (upC cs i v2) := ⟨hS2.bk, hS.out.tu.trans hS2.tu fun _ _ h => h⟩
    have hv3 : v2.aw = (cs i).aw := hv2.trans hv
    clear HP hS2 hv2 hv hS hC
    obtain ⟨A, n, c, e1, e2, e3⟩ := hC2.inp
    have hln := e2.len
    have hcap := e2.cap
    have hbig := e2.big
    have c0 : w2.cell? ⟨sv, 1 + 4 * i, none⟩ = some (.slice A n c) := by rw [hS3.bk.cell, (svA_get _ hi).1, upC_same, e1]
    have c1 : w2.cell? ⟨sv, 1 + 4 * i + 1, none⟩ = some (.int .i64 (leftM l1 p1)) := by rw [hS3.bk.cell, (svA_get _ hi).2.1, upC_same, hC2.past]
    have z0 := hS3.bk.thaw (1 + 4 * i)
    have z1 := hS3.bk.thaw (1 + 4 * i + 1)
    have HS3 := Lib.hid hS3
    have HC2 := Lib.hid hC2
    have HE2 := Lib.hid e2
    have HE3 := Lib.hid e3
    have HE1 := Lib.hid e1
    have HLn := Lib.hid hln
    clear hS3 hC2 e1 e2 e3
    rcases hL : passM l1 p1 with _ | ⟨x, _ | ⟨y, r⟩⟩
    · have hst : stepM l1 p1 = none := by unfold stepM; rw [hL]
      have hn0 : n = 0 := by rw [← hln, hL]; rfl
      subst hn0
      clear hln
      go_wp2_with fail
      go_ret2
      exact ⟨E, l1, p1, v2, hR.out, hE.out, hv3, HS3.out, .inl ⟨hst, rfl, HC2.out⟩⟩
    · have hst : stepM l1 p1 = none := by unfold stepM; rw [hL]
      have hn0 : n = 1 := by rw [← hln, hL]; rfl
      subst hn0
      clear hln
      go_wp2_with fail
      go_ret2
      exact ⟨E, l1, p1, v2, hR.out, hE.out, hv3, HS3.out, .inl ⟨hst, rfl, HC2.out⟩⟩
    · have hn2 : n = r.length + 2 := by rw [← hln, hL]; rfl
      have he2 := HE2.out
      rw [hL] at he2
      obtain ⟨ad, rfl, b0, b1⟩ := two_bytes he2
      have hst : stepM l1 p1 = if len2 x y ≤ 1024 then (if r.length < len2 x y then none else some (.frame (r.take (len2 x y)), r.drop (len2 x y), leftM l1 p1)) else some (.big, r, len2 x y) := by unfold stepM; rw [hL]
      have HL := Lib.hid hL
      have HSt := Lib.hid hst
      have hng : ¬ ((n : Int) < 2) := by omega
      have hi0 : (0 : Int) < (n : Int) := by omega
      have hi1 : (1 : Int) < (n : Int) := by omega
      have hbl : len2 x y ≤ 65535 := by
        unfold len2
        have := x.toNat_lt
        have := y.toNat_lt
        omega
      clear hL hst hln he2
      have HN2 := Lib.hid hn2
      clear hn2
      have d0 : w2.cell? ad = some (.int .u8 (w8 x)) := b0
      have d1 : w2.cell? ⟨ad.block, ad.off + 1, none⟩ = some (.int .u8 (w8 y)) := b1
      clear b0 b1
      go_wp2_with fail
      go_quiet (fail)
      have hbq : Below w2.heap.size w2 (w2.drewN nq) := ⟨rfl, rfl, rfl, Nat.le_refl _, fun _ _ => rfl⟩
      have HS4 := Lib.hid (HS3.out.ext hbq)
      have HC4 := Lib.hid (HC2.out.turned (Turned.of_below (P := fun _ => False) hbq) (fun _ h => h.elim))
      have HR4 : Hid (RdB (w2.drewN nq) (some ad) n c (passM l1 p1)) := HE2.out.ext hbq
      generalize w2.drewN nq = w3 at HS4 HC4 HR4 ⊢
      clear hbq d0 d1 c0 c1 z0 z1 HS3 HC2 HE2
      have c0 : w3.cell? ⟨sv, 1 + 4 * i, none⟩ = some (.slice (some ad) n c) := by rw [HS4.out.bk.cell, (svA_get _ hi).1, upC_same, HE1.out]
      have c1 : w3.cell? ⟨sv, 1 + 4 * i + 1, none⟩ = some (.int .i64 (leftM l1 p1)) := by rw [HS4.out.bk.cell, (svA_get _ hi).2.1, upC_same, HC4.out.past]
      have z0 := HS4.out.bk.thaw (1 + 4 * i)
      have z1 := HS4.out.bk.thaw (1 + 4 * i + 1)
      obtain ⟨q, hq⟩ : ∃ q, len2 x y = q := ⟨_, rfl⟩
      rw [hq] at HSt hbl ⊢
      have HQ := Lib.hid hq
      clear hq
      by_cases hq1 : q ≤ 1024
      · have hqi : (q : Int) ≤ 1024 := by omega
        by_cases hq2 : r.length < q
        · have hst : stepM l1 p1 = none := by rw [HSt.out, if_pos hq1, if_pos hq2]
          have hqj : (n : Int) - 2 < q := by have := HN2.out; omega
          go_wp2_with fail
          go_ret2
          exact ⟨E, l1, p1, v2, hR.out, hE.out, hv3, HS4.out, .inl ⟨hst, rfl, HC4.out⟩⟩
        · have hst : stepM l1 p1 = some (.frame (r.take q), r.drop q, leftM l1 p1) := by rw [HSt.out, if_pos hq1, if_neg hq2]
          have hqj : ¬ ((n : Int) - 2 < q) := by have := HN2.out; omega
          have hq3 : 2 + q ≤ n := by have := HN2.out; omega
          go_wp2_with fail
          go_ret2
          have hS5 := HS4.out.put (svA_set _ hi (.slice (pastA (some ad) (2 + q) c 1) (n - (2 + q)) (c - (2 + q)))).1
          rw [upC_same, upC_up] at hS5
          have hT := ((⟨HS4.out.bk, Turned.refl _ _⟩ : SvW w3 w3 sv b _).put (svA_set _ hi (.slice (pastA (some ad) (2 + q) c 1) (n - (2 + q)) (c - (2 + q)))).1).tu
          have hrx := (HR4.out.past' 2 (by omega)).upto q (by omega)
          have hrl := HR4.out.past' (2 + q) hq3
          rw [HL.out] at hrx hrl
          have hd : (x :: y :: r).drop (2 + q) = r.drop q := by rw [Nat.add_comm]; rfl
          rw [hd] at hrl
          have hp2 : ∀ k a, pastA (some ad) k c 1 = some a → a.block ≠ sv ∧ a.block ≠ b := by
            intro k a e
            obtain ⟨a', q1, q2⟩ := pastA_block e
            rw [← q2]
            exact HE3.out a' q1
          have hC5 := HC4.out.turned hT (fun _ h => .inl h)
          refine ⟨E, l1, p1, hR.out, hE.out, ⟨.slice (pastA (some ad) (2 + q) c 1) (n - (2 + q)) (c - (2 + q)), v2.past, v2.out, v2.aw⟩, hv3, hS5, .inr ⟨_, _, _, hst, _, _, _, rfl, RdB.turned hrx hT (fun a e h => (hp2 _ a e).1 h), hp2 2, ⟨⟨_, _, _, rfl, RdB.turned hrl hT (fun a e h => (hp2 _ a e).1 h), hp2 _⟩, hC5.past, hC5.out⟩⟩⟩
      · have hqi : ¬ (q : Int) ≤ 1024 := by omega
        have hst : stepM l1 p1 = some (.big, r, q) := by rw [HSt.out, if_neg hq1]
        have hS4' := (HS4.out.put (svA_set _ hi (.slice (pastA (some ad) 2 c 1) (n - 2) (c - 2))).1).put (svA_set _ hi (.int .i64 q)).2.1
        rw [upC_same, upC_up, upC_same, upC_up] at hS4'
        have hT := (((⟨HS4.out.bk, Turned.refl _ _⟩ : SvW w3 w3 sv b _).put (svA_set _ hi (.slice (pastA (some ad) 2 c 1) (n - 2) (c - 2))).1).put (svA_set _ hi (.int .i64 q)).2.1).tu
        have hC5 := HC4.out.turned hT (fun _ h => .inl h)
        have hrl := RdB.turned (HR4.out.past' 2 (by omega)) hT (fun a e h => by
          obtain ⟨a', q1, q2⟩ := pastA_block e
          exact (HE3.out a' q1).1 (q2.trans h))
        rw [HL.out] at hrl
        have hrl : RdB _ _ _ _ r := hrl
        have hrp : ∀ a, pastA (some ad) 2 c 1 = some a → a.block ≠ sv ∧ a.block ≠ b := by
          intro a e
          obtain ⟨a', q1, q2⟩ := pastA_block e
          rw [← q2]
          exact HE3.out a' q1
        obtain ⟨Ao, no, co, f1, f2, f3⟩ := hC5.out
        have hol : (out ++ E.flatMap evB).length ≤ 900000 := by
          rw [List.length_append, outs_len]
          omega
        have HSy := Lib.hid (say_any hS4'.bk hi (by rw [upC_same]; exact f1) f2 hol (rp_ok (co := 0) (er := 11) (by omega) (by omega) (by omega) (by omega)))
        have HS5 := Lib.hid hS4'
        have HRl := Lib.hid hrl
        have HRp := Lib.hid hrp
        have HF3 := Lib.hid f3
        have HF1 := Lib.hid f1
        clear hT hC5 hrl hrp f1 f2 f3 hol hS4'
        go_wp2_with fail
        generalize (w3.setCell ⟨sv, 1 + 4 * i, none⟩ (.slice (pastA (some ad) 2 c 1) (n - 2) (c - 2))).setCell ⟨sv, 1 + 4 * i + 1, none⟩ (.int .i64 q) = w4 at HSy HS5 HRl ⊢
        with_reducible refine HSy.out.mono ?_
        rintro er5 w5 ⟨rfl, Ay, cy, hSy, hRy, hpy⟩
        rw [upC_up] at hSy
        have hS6 : SvW w w5 sv b (upC cs i ⟨.slice (pastA (some ad) 2 c 1) (n - 2) (c - 2), .int .i64 q, .slice Ay (no + 25) cy, v2.aw⟩) := by
          have h := hSy.bk
          simp only [upC_same] at h
          exact ⟨h, HS5.out.tu.trans hSy.tu fun _ _ h => h⟩
        have hsl := HS5.out.bk.lt
        have hC6 : CnAt w5 ⟨.slice (pastA (some ad) 2 c 1) (n - 2) (c - 2), .int .i64 q, .slice Ay (no + 25) cy, v2.aw⟩ sv b r q (out ++ (E ++ [Ev.big]).flatMap evB) := by
          refine ⟨⟨_, _, _, rfl, RdB.turned HRl.out hSy.tu (fun a e h => (HRp.out a e).1 h), HRp.out⟩, rfl, ⟨_, _, _, rfl, ?_, fun a e => ?_⟩⟩
          · rw [List.flatMap_append, ← List.append_assoc]
            exact hRy
          · have := hpy a e
            omega
        have HC6 := Lib.hid hC6
        have HS6 := Lib.hid hS6
        have hln5 := CnAt.len (cs := upC cs i ⟨.slice (pastA (some ad) 2 c 1) (n - 2) (c - 2), .int .i64 q, .slice Ay (no + 25) cy, v2.aw⟩) hi hS6.bk (by rw [upC_same]; exact hC6)
        have hs2 := step_less hst
        have hRn : Hid (Rn l p (E ++ [Ev.big]) r q) := Rn.snoc hR.out hst
        have hEn : Hid (∀ z ∈ E ++ [Ev.big], z = Ev.big) := fun z hz => by
          rcases List.mem_append.1 hz with h | h
          · exact hE.out z h
          · exact List.mem_singleton.1 h
        clear hSy hRy hpy hS6 hC6 hst
        go_wp2_with fail
        refine ⟨⟨E ++ [Ev.big], r, q, ⟨.slice (pastA (some ad) 2 c 1) (n - 2) (c - 2), .int .i64 q, .slice Ay (no + 25) cy, v2.aw⟩, hRn, hEn, hv3, HS6, HC6⟩, ?_⟩
        rw [hln5, HLw.out]
        omega
end Go.Proofs.YtkdlofgfkfhofaaGreatDoor

/-
  server: what a frame is told lies in its fields.
-/
namespace Go.Proofs.YtkdlofgfkfhofaaGreatDoor
open Go.RowKit

def ErrK (k : Int) : Prop := 2 ≤ k ∧ k ≤ 14
theorem getTs_err {most : Int} : ∀ {n : Nat} {bs : List UInt8} {k : Int}, getTs most n bs = .error k → ErrK k
  | 0, bs, k, h => by cases h
  | n + 1, bs, k, h => by
    unfold getTs at h
    split at h
    · rename_i e he
      injection h with h
      subst h
      rcases getT_err he with h | h <;> (rw [h]; unfold ErrK; omega)
    · split at h
      · rename_i e he
        injection h with h
        subst h
        exact getTs_err he
      · cases h
theorem getV_err {f : Fld} {bs : List UInt8} {k : Int} (h : getV f bs = .error k) : ErrK k := by
  unfold getV at h
  split at h
  · split at h
    · rename_i e he
      injection h with h
      subst h
      rcases getN_err he with h | h <;> (rw [h]; unfold ErrK; omega)
    · cases h
  · split at h
    · split at h
      · rename_i e he
        injection h with h
        subst h
        rcases getT_err he with h | h <;> (rw [h]; unfold ErrK; omega)
      · cases h
    · split at h
      · rename_i e he
        injection h with h
        subst h
        rcases getN_err he with h | h <;> (rw [h]; unfold ErrK; omega)
      · split at h
        · rename_i e he
          injection h with h
          subst h
          exact getTs_err he
        · cases h
theorem getAll_err : ∀ {fs : List Fld} {bs : List UInt8} {k : Int}, getAll fs bs = .error k → ErrK k
  | [], [], k, h => by cases h
  | [], x :: xs, k, h => by
    injection h with h
    subst h
    unfold ErrK
    omega
  | f :: fs, bs, k, h => by
    rw [getAll_cons] at h
    split at h
    · rename_i e he
      injection h with h
      subst h
      exact getV_err he
    · split at h
      · rename_i e he
        injection h with h
        subst h
        exact getAll_err he
      · cases h
theorem getE_errK : ∀ {bs : List UInt8} {k : Int}, getE bs = .error k → ErrK k
  | [], k, h => by
    injection h with h
    subst h
    unfold ErrK
    omega
  | b :: r, k, h => by
    replace h : getE1 b r = .error k := h
    unfold getE1 at h
    by_cases hb : w8 b < 1 ∨ 5 < w8 b
    · rw [if_pos hb] at h
      injection h with h
      subst h
      unfold ErrK
      omega
    · rw [if_neg hb] at h
      split at h
      · rename_i e he
        injection h with h
        subst h
        exact getAll_err he
      · split at h
        · cases h
        · injection h with h
          subst h
          unfold ErrK
          omega
theorem bodyA_err {k : UInt8} {r : List UInt8} {e : Int} (h : bodyA k r = .error e) : ErrK e := by
  unfold bodyA at h
  split at h
  · split at h
    · cases h
    · rename_i c hc
      injection h with h
      subst h
      exact getE_errK hc
  · split at h
    · split at h
      · cases h
      · rename_i c hc
        injection h with h
        subst h
        exact getAll_err hc
    · injection h with h
      subst h
      unfold ErrK
      omega
theorem getA_err {l : List UInt8} {co e : Int} (h : getA l = .error (co, e)) : (0 ≤ co ∧ co ≤ 4294967295) ∧ ErrK e := by
  have h3 : ErrK 3 := by unfold ErrK; omega
  match l, h with
  | [], h => injection h with h; injection h with h1 h2; subst h1 h2; exact ⟨by omega, h3⟩
  | [_], h => injection h with h; injection h with h1 h2; subst h1 h2; exact ⟨by omega, h3⟩
  | [_, _], h => injection h with h; injection h with h1 h2; subst h1 h2; exact ⟨by omega, h3⟩
  | [_, _, _], h => injection h with h; injection h with h1 h2; subst h1 h2; exact ⟨by omega, h3⟩
  | [_, _, _, _], h => injection h with h; injection h with h1 h2; subst h1 h2; exact ⟨by omega, h3⟩
  | [_, _, _, _, _], h => injection h with h; injection h with h1 h2; subst h1 h2; exact ⟨by omega, h3⟩
  | v :: k :: c0 :: c1 :: c2 :: c3 :: r, h =>
    have hc := (corr4_bytes c0 c1 c2 c3).1
    replace h : getA6 v k c0 c1 c2 c3 r = .error (co, e) := h
    unfold getA6 at h
    split at h
    · split at h
      · split at h
        · cases h
        · injection h with h
          injection h with h1 h2
          subst h1 h2
          exact ⟨hc, by unfold ErrK; omega⟩
      · rename_i e' he
        injection h with h
        injection h with h1 h2
        subst h1 h2
        exact ⟨hc, bodyA_err he⟩
    · injection h with h
      injection h with h1 h2
      subst h1 h2
      exact ⟨hc, by unfold ErrK; omega⟩
theorem evR_in (e : Ev) : 0 ≤ (evR e).1 ∧ (evR e).1 ≤ 4294967295 ∧ 0 ≤ (evR e).2 ∧ (evR e).2 ≤ 255 := by
  unfold evR
  cases e with
  | big => simp
  | frame x =>
    simp only
    cases hg : getA x with
    | error k =>
      obtain ⟨co, er⟩ := k
      have := getA_err hg
      unfold ErrK at this
      simp only
      omega
    | ok a =>
      have h1 := (rightA_facts (getA_inv hg).1).1
      simp only
      unfold servE
      split <;> omega
theorem evR_ok (e : Ev) : okAll rplF (rplV (evR e).1 (evR e).2 0 0) = true := by
  obtain ⟨h1, h2, h3, h4⟩ := evR_in e
  exact rp_ok h1 h2 h3 h4
end Go.Proofs.YtkdlofgfkfhofaaGreatDoor
