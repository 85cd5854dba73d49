import Derived.Test.YtkdlofgfkfhofaaGreatDoorP38
/-
  server: bytes that come, asks that write left out.
-/
namespace Go.Proofs.YtkdlofgfkfhofaaGreatDoor
open Go.RowKit Go.Maps

theorem Rn.trans {l : List UInt8} {p : Nat} {E : List Ev} {l1 : List UInt8} {p1 : Nat} (h : Rn l p E l1 p1) {E2 : List Ev} {l2 : List UInt8} {p2 : Nat} (h2 : Rn l1 p1 E2 l2 p2) : Rn l p (E ++ E2) l2 p2 := by
  induction h2 with
  | nil => rw [List.append_nil]; exact h
  | snoc _ hs ih => rw [← List.append_assoc]; exact ih.snoc hs
/-- where a server's blocks lie -/
structure SvL (sv b t g s tb : Nat) : Prop where
  b1 : b < t ∧ b < g ∧ b < s ∧ b < tb
  b2 : t < sv ∧ g < sv ∧ s < sv ∧ tb < sv
theorem SvL.b {sv b t g s tb : Nat} (h : SvL sv b t g s tb) : b < sv := Nat.lt_trans h.b1.1 h.b2.1
/-- a server in memory, its connections' cells aside -/
structure SvAt (w : World) (sv b r t g s tb gr : Nat) (me ws : Value) (last : Int) (c : CfgM) (cs : Nat → CV) : Prop where
  bk : Bk w sv 81 (svA b cs)
  br : BrkAt w b r t g s tb gr me ws last c
  el : ErrLaid w
theorem SvAt.ext {w w' : World} {sv b r t g s tb gr : Nat} {me ws : Value} {last : Int} {c : CfgM} {cs : Nat → CV} (h : SvAt w sv b r t g s tb gr me ws last c cs) (hb : Below w.heap.size w w') : SvAt w' sv b r t g s tb gr me ws last c cs := ⟨h.bk.ext hb, h.br.ext hb, h.el.below hb⟩
theorem el_other {w : World} (hL : ErrLaid w) {q : Nat} {t : TypeId} {cs : Array Value} {p : Addr} (h : Bk w q t cs) (h0 : cs[0]? = some (.pointer (some p))) : 0 ≠ q := by
  intro e
  have h1 : w.cell? ⟨q, 0, none⟩ = some (.pointer (some p)) := (h.cell 0).trans h0
  have key : ∀ (G : Nat) (u : TypeId) (x : Value), G = q → w.cell? ⟨G, 0, none⟩ = some (.iface u x) → False := by
    rintro G u x rfl h2
    rw [h1] at h2
    cases h2
  exact key _ _ _ e hL
theorem SvAt.step {w w' : World} {sv b r t g s tb gr : Nat} {me ws : Value} {last : Int} {c : CfgM} {cs cs' : Nat → CV} (h : SvAt w sv b r t g s tb gr me ws last c cs) (hl : SvL sv b t g s tb) (hw : SvW w w' sv b cs') : SvAt w' sv b r t g s tb gr me ws last c cs' := by
  have h1 := hl.b
  have h2 := hl.b2
  exact ⟨hw.bk, ⟨h.br.bk.turned hw.tu (by omega), h.br.tp.turned hw.tu (by omega), h.br.vo.turned hw.tu (by omega), h.br.st.turned hw.tu (by omega) (by omega)⟩, (turned_cell hw.tu (cell_lt h.el) (el_other h.el h.bk rfl)).trans h.el⟩
theorem SvAt.serve {w w' : World} {sv b r t g s tb gr : Nat} {me ws : Value} {last last' : Int} {c : CfgM} {cs : Nat → CV} (h : SvAt w sv b r t g s tb gr me ws last c cs) (hl : SvL sv b t g s tb) (hb : BrkAt w' b r t g s tb gr me ws last' c) (ht : Turned (fun i => i = b) w w') : SvAt w' sv b r t g s tb gr me ws last' c cs := by
  have h1 := hl.b
  exact ⟨h.bk.turned ht (by omega), hb, (turned_cell ht (cell_lt h.el) (el_other h.el h.br.bk rfl)).trans h.el⟩
/-- what body handed back, in the loop over a connection's frames -/
def Bp (wr : World) (sv b i : Nat) (cs : Nat → CV) (l0 : List UInt8) (p0 : Nat) (out0 : List UInt8) (E : List Ev) (v : CV) (xv : Value) (ok : Bool) : Prop :=
  ∃ l2 p2, Rn l0 p0 E l2 p2 ∧ v.aw = (cs i).aw ∧ ((ok = false ∧ stepM l2 p2 = none ∧ CnAt wr v sv b (passM l2 p2) (leftM l2 p2) (out0 ++ E.flatMap evB)) ∨
    (ok = true ∧ ∃ X l3 p3 A n c, stepM l2 p2 = some (.frame X, l3, p3) ∧ xv = .slice A n c ∧ RdB wr A n c X ∧ (∀ ad, A = some ad → ad.block ≠ sv ∧ ad.block ≠ b) ∧ CnAt wr v sv b l3 p3 (out0 ++ E.flatMap evB)))
theorem frame_le {l : List UInt8} {p : Nat} {X l3 : List UInt8} {p3 : Nat} (h : stepM l p = some (.frame X, l3, p3)) : X.length + 2 + l3.length ≤ l.length := by
  have h1 := pass_le l p
  unfold stepM at h
  split at h
  · rename_i x y r hp
    rw [hp] at h1
    simp only [List.length_cons] at h1
    split at h
    · split at h
      · cases h
      · simp only [Option.some.injEq, Prod.mk.injEq, Ev.frame.injEq] at h
        obtain ⟨rfl, rfl, _⟩ := h
        rw [List.length_take, List.length_drop]
        omega
    · simp at h
  · cases h
/-- body's answer in one form -/
theorem Bp.of_body {w0 wr : World} {sv b i : Nat} {cs cs1 : Nat → CV} {l0 : List UInt8} {p0 : Nat} {out0 : List UInt8} {E0 : List Ev} {l : List UInt8} {p : Nat} (hR : Rn l0 p0 E0 l p) (haw : (cs1 i).aw = (cs i).aw) (hcs : ∀ v, upC cs1 i v = upC cs i v) {e : Ending}
    (h : ∃ E l2 p2 v, Rn l p E l2 p2 ∧ (∀ x ∈ E, x = Ev.big) ∧ v.aw = (cs1 i).aw ∧ SvW w0 wr sv b (upC cs1 i v) ∧
      ((stepM l2 p2 = none ∧ e = .returned (.tuple #[.slice none 0 0, .bool false]) ∧ CnAt wr v sv b (passM l2 p2) (leftM l2 p2) ((out0 ++ E0.flatMap evB) ++ E.flatMap evB)) ∨
      (∃ x l3 p3 A n c, stepM l2 p2 = some (.frame x, l3, p3) ∧ e = .returned (.tuple #[.slice A n c, .bool true]) ∧ RdB wr A n c x ∧ (∀ ad, A = some ad → ad.block ≠ sv ∧ ad.block ≠ b) ∧ CnAt wr v sv b l3 p3 ((out0 ++ E0.flatMap evB) ++ E.flatMap evB)))) :
    ∃ A n c ok E v, e = .returned (.tuple #[.slice A n c, .bool ok]) ∧ Bp wr sv b i cs l0 p0 out0 E v (.slice A n c) ok ∧ SvW w0 wr sv b (upC cs i v) ∧ (∀ A' n' c', v.inp = .slice A' n' c' → 2 * n' + (match Value.bool ok with | .bool true => 1 | _ => 0) ≤ 2 * l.length) ∧ E0.length ≤ E.length := by
  obtain ⟨E, l2, p2, v, h1, _, h3, h4, h5⟩ := h
  rw [hcs] at h4
  have hf : (out0 ++ E0.flatMap evB) ++ E.flatMap evB = out0 ++ (E0 ++ E).flatMap evB := by rw [List.flatMap_append, List.append_assoc]
  rw [hf] at h5
  rcases h5 with ⟨a1, rfl, a3⟩ | ⟨X, l3, p3, A, n, c, a1, rfl, a3, a4, a5⟩
  · refine ⟨none, 0, 0, false, E0 ++ E, v, rfl, ⟨l2, p2, hR.trans h1, h3.trans haw, .inl ⟨rfl, a1, a3⟩⟩, h4, fun A' n' c' e => ?_, by rw [List.length_append]; omega⟩
    obtain ⟨A1, n1, c1, q1, q2, _⟩ := a3.inp
    rw [e] at q1
    injection q1 with _ q1 _
    have := q2.len
    have := pass_le l2 p2
    have := h1.less
    simp only
    omega
  · refine ⟨A, n, c, true, E0 ++ E, v, rfl, ⟨l2, p2, hR.trans h1, h3.trans haw, .inr ⟨rfl, X, l3, p3, A, n, c, a1, rfl, a3, a4, a5⟩⟩, h4, fun A' n' c' e => ?_, by rw [List.length_append]; omega⟩
    obtain ⟨A1, n1, c1, q1, q2, _⟩ := a5.inp
    rw [e] at q1
    injection q1 with _ q1 _
    have := q2.len
    have := step_less a1
    have := h1.less
    simp only
    omega
theorem svLen_of {w : World} {cs : Nat → CV} {sv b i : Nat} {v : CV} (hi : i < 4) (hS : Bk w sv 81 (svA b (upC cs i v))) {A : Option Addr} {n c : Nat} (h : v.inp = .slice A n c) : svLen w sv i = n := by
  unfold svLen
  rw [hS.cell, (svA_get _ hi).1, upC_same, h]
theorem IsErr.neq {d : Nat} {v : Value} {k : Int} (h : IsErr d v k) (w : World) : (binOp .neq 52 v .nilIface).run Tryz.prog w = .ok (.bool true) w := by
  cases h with
  | no k => kernel_rfl
  | flt d op at_ v k h => kernel_rfl
theorem IsErr.gneq {d : Nat} {v : Value} {k : Int} (h : IsErr d v k) (x : Tmp) (w : World) : (eqGuard .neq 52 (.tmp x) (.const .nilIface) v .nilIface).run Tryz.prog w = .ok () w := by
  cases h with
  | no k => kernel_rfl
  | flt d op at_ v k h => kernel_rfl
/-- a frame is told something -/
theorem say_step {w : World} {sv b r t g s tb gr : Nat} {me ws : Value} {last : Int} {cf : CfgM} {cs : Nat → CV} {i : Nat} {v : CV} (hS : SvAt w sv b r t g s tb gr me ws last cf (upC cs i v)) (hl : SvL sv b t g s tb) (hi : i < 4) {l : List UInt8} {p : Nat} {out : List UInt8} (hC : CnAt w v sv b l p out) (ho : out.length ≤ 900000) {co er : Int} {x : Ev} (hx : evR x = (co, er)) :
    Calls Tryz.prog 63 #[.pointer (some ⟨sv, 1 + 4 * i, none⟩), .agg (rpC co er 0 0)] w fun e w' => e = .returned (.tuple #[]) ∧ ∃ v', v'.aw = v.aw ∧ SvAt w' sv b r t g s tb gr me ws last cf (upC cs i v') ∧ CnAt w' v' sv b l p (out ++ evB x) ∧ Turned (fun j => j = sv) w w' := by
  obtain ⟨A, n, c, f1, f2, f3⟩ := hC.out
  have hok := evR_ok x
  rw [hx] at hok
  have hsl := hS.bk.lt
  have hbv := hl.b
  refine (say_any hS.bk hi (by rw [upC_same]; exact f1) f2 ho hok).mono ?_
  rintro e w' ⟨rfl, A', c', hw, hr, hp⟩
  rw [upC_up] at hw
  refine ⟨rfl, ⟨v.inp, v.past, .slice A' (n + 25) c', v.aw⟩, rfl, ?_, ?_, hw.tu⟩
  · have h := hS.step hl hw
    simp only [upC_same] at h
    exact h
  · have h2 := hC.turned hw.tu (fun _ h => .inl h)
    refine ⟨h2.inp, h2.past, ⟨_, _, _, rfl, ?_, fun ad e => ?_⟩⟩
    · unfold evB
      rw [hx]
      exact hr
    · have := hp ad e
      omega
def isRp (w : World) (g : Nat) : Prop := ∃ old : Array Value, Bk w g 43 old ∧ old.size = 6
theorem isRp.lt {w : World} {g : Nat} (h : isRp w g) : g < w.heap.size := by
  obtain ⟨old, h1, _⟩ := h
  exact h1.lt
theorem isRp_drew (w : World) (g : Nat) : isRp w.drew g ↔ isRp w g := Iff.rfl
theorem isRp.ext {w w' : World} {g : Nat} (h : isRp w g) (hb : Below w.heap.size w w') : isRp w' g := by
  obtain ⟨old, h1, h2⟩ := h
  exact ⟨old, h1.ext hb, h2⟩
theorem isRp.serve {w w' : World} {g b : Nat} {cs : Array Value} (h : isRp w g) (hb : Bk w b 105 cs) (ht : Turned (fun j => j = b) w w') : isRp w' g := by
  obtain ⟨old, h1, h2⟩ := h
  refine ⟨old, h1.turned ht ?_, h2⟩
  rintro rfl
  unfold Bk at h1 hb
  rw [h1] at hb
  injection hb with hb
  injection hb with _ hb
  exact absurd hb (by decide)
theorem isRp_alloc (w : World) (G : Nat) : isRp (w.alloc (.cells #[.int .i64 0, .int .i64 0, .int .i64 0, .int .i64 0, .slice none 0 0, .slice none 0 0] 43)) G ↔ isRp w G ∨ G = w.heap.size := by
  constructor
  · intro h
    by_cases hg : G < w.heap.size
    · obtain ⟨old, h1, h2⟩ := h
      exact .inl ⟨old, (Below.heap_alloc w _ G hg).symm.trans h1, h2⟩
    · have := h.lt
      simp at this
      exact .inr (by omega)
  · rintro (h | rfl)
    · exact h.ext (below_new _ _)
    · exact ⟨_, Bk.made w _ _, rfl⟩
def stRp0 (v u : Value) : Sem Unit := stRp v u
theorem stRp_if (w : World) (G : Nat) (co er ba nx : Int) :
    (stRp (.pointer (some ⟨G, 0, none⟩)) (.agg #[.int .i64 co, .int .i64 er, .int .i64 ba, .int .i64 nx, .slice none 0 0, .slice none 0 0])).run Tryz.prog w = @ite _ (isRp w G) (Classical.propDecidable _) (.ok () (w.setRow G (rpC co er ba nx))) ((stRp0 (.pointer (some ⟨G, 0, none⟩)) (.agg #[.int .i64 co, .int .i64 er, .int .i64 ba, .int .i64 nx, .slice none 0 0, .slice none 0 0])).run Tryz.prog w) := by
  split
  · rename_i h
    obtain ⟨old, h1, h2⟩ := h
    exact stRp_bk h2 h1 co er ba nx
  · rfl
theorem serve_row {wa w6 X : World} {sv b r t g s tb gr : Nat} {me ws : Value} {last last' : Int} {cf : CfgM} {cs : Nat → CV} {v : CV} (hS : SvAt wa sv b r t g s tb gr me ws last cf cs) (hl : SvL sv b t g s tb) (hb : BrkAt w6 b r t g s tb gr me ws last' cf) (hT : Turned (fun j => j = b) wa w6) (hX : Below w6.heap.size w6 X) {G : Nat} (hR : isRp X G) (hG : wa.heap.size ≤ G) {l : List UInt8} {p : Nat} {out : List UInt8} (hC : CnAt wa v sv b l p out) (co er : Int) :
    SvAt (X.setRow G (rpC co er 0 0)) sv b r t g s tb gr me ws last' cf cs ∧ CnAt (X.setRow G (rpC co er 0 0)) v sv b l p out ∧ Turned (fun j => j = b) wa (X.setRow G (rpC co er 0 0)) ∧ Bk (X.setRow G (rpC co er 0 0)) G 43 (rpC co er 0 0) := by
  have hg : X.grownBy (X.setRow G (rpC co er 0 0)) (some G) := grown_row _ _ _
  have htX : Turned (fun j => j = b) wa X := hT.then_below hX
  have htY : Turned (fun j => j = b) wa (X.setRow G (rpC co er 0 0)) := htX.then_grown hg (fun k e => .inr (by rw [← Option.some.inj e]; exact hG))
  have htq : Turned (fun j => j = G) X (X.setRow G (rpC co er 0 0)) := Turned.of_grown hg (fun _ e => (Option.some.inj e).symm)
  have hbX := hb.ext hX
  have h1 := hS.bk.lt
  have h2 := hl.b
  have h3 := hl.b2
  obtain ⟨old, hk, ho⟩ := hR
  exact ⟨⟨hS.bk.turned htY (by omega), ⟨hbX.bk.turned htq (by omega), hbX.tp.turned htq (by omega), hbX.vo.turned htq (by omega), hbX.st.turned htq (by omega) (by omega)⟩, (turned_cell htY (cell_lt hS.el) (el_other hS.el hS.br.bk rfl)).trans hS.el⟩, hC.turned htY (fun _ h => .inr h), htY, hk.row _⟩
attribute [local go_sem ↓] ldRp_eq stRp_eq ldA_eq
attribute [local go_sem] isRp_drew isRp_alloc stRp_if
set_option maxRecDepth 100000 in
set_option maxHeartbeats 4000000 in
theorem svBytes_any {w : World} {sv b r t g s tb gr : Nat} {me ws : Value} {last : Int} {cf : CfgM} {cs : Nat → CV} (hS : SvAt w sv b r t g s tb gr me ws last cf cs) (hl : SvL sv b t g s tb) {i : Nat} (hi : i < 4) {l : List UInt8} {p : Nat} {out : List UInt8} (hC : CnAt w (cs i) sv b l p out) {Ab : Option Addr} {nb cb : Nat} {bs : List UInt8} (hb : RdB w Ab nb cb bs) (hpot : out.length + 25 * (l.length + nb) ≤ 800000) (hp : p ≤ 900000) (hl0 : 0 ≤ last) (hl1 : last + (l.length + nb) ≤ 900000)
    (hrd : ∀ E l2 p2 X l3 p3 a, Rn (l ++ bs) p E l2 p2 → stepM l2 p2 = some (.frame X, l3, p3) → getA X = .ok a → writK a.kind = false) :
    Calls Tryz.prog 28 #[.pointer (some ⟨sv, 0, none⟩), .pointer (some ⟨sv, 1 + 4 * i, none⟩), .slice Ab nb cb] w fun e w' => e = .returned (.tuple #[]) ∧ ∃ E l2 p2 v last', Rn (l ++ bs) p E l2 p2 ∧ stepM l2 p2 = none ∧ CnAt w' v sv b (passM l2 p2) (leftM l2 p2) (out ++ E.flatMap evB) ∧ v.aw = (cs i).aw ∧ SvAt w' sv b r t g s tb gr me ws last' cf (upC cs i v) ∧ 0 ≤ last' ∧ last' ≤ last + E.length ∧ Turned (fun j => j = sv ∨ j = b) w w' := by
  have HS := Lib.hid hS
  have HC := Lib.hid hC
  have HBs := Lib.hid hb
  have HLy := Lib.hid hl
  have HRd := Lib.hid hrd
  obtain ⟨A, n, cp, e1, e2, e3⟩ := hC.inp
  have c0 : w.cell? ⟨sv, 1 + 4 * i, none⟩ = some (.slice A n cp) := by rw [hS.bk.cell, (svA_get cs hi).1, e1]
  have hln := e2.len
  have HE1 := Lib.hid e1
  have HE2 := Lib.hid e2
  clear hS hC hb hl hrd e1 e2
  go_enter Tryz.func28, Tryz.ntmps28
  go_wp2_with fail
  have hb1 := below_new w (.cells #[.slice A n cp, .slice Ab nb cb] 26)
  have htot : tot [⟨A, n, cp, l⟩, ⟨Ab, nb, cb, bs⟩] = l ++ bs := by simp [tot]
  have hlen : (l ++ bs).length = n + nb := by rw [List.length_append, hln, HBs.out.len]
  have hC := concat_any [⟨A, n, cp, l⟩, ⟨Ab, nb, cb, bs⟩] w.heap.size 2 rfl (by omega) (w.alloc (.cells #[.slice A n cp, .slice Ab nb cb] 26)) (Bk.made w _ _) (fun s hs => by
    simp only [List.mem_cons, List.not_mem_nil, or_false] at hs
    rcases hs with rfl | rfl
    · exact RdB.ext HE2.out hb1
    · exact RdB.ext HBs.out hb1) (by rw [htot, hlen]; omega)
  rw [htot, hlen] at hC
  have HCc := Lib.hid hC
  have HS1 := Lib.hid (HS.out.ext hb1)
  have HC1 := Lib.hid (HC.out.turned (Turned.of_below (P := fun _ => False) hb1) (fun _ h => h.elim))
  have HT1 : Hid (Turned (fun j => j = sv ∨ j = b) w (w.alloc (.cells #[.slice A n cp, .slice Ab nb cb] 26))) := Turned.of_below hb1
  have HLen := Lib.hid hlen
  clear hb1 htot hlen hC c0
  generalize w.alloc (.cells #[.slice A n cp, .slice Ab nb cb] 26) = w1 at HCc HS1 HC1 HT1 ⊢
  with_reducible refine HCc.out.mono ?_
  rintro er w2 ⟨A2, c2, rfl, ho2, hb2⟩
  have HS2 := Lib.hid (HS1.out.ext hb2)
  have HC2 := Lib.hid (HC1.out.turned (Turned.of_below (P := fun _ => False) hb2) (fun _ h => h.elim))
  have HT2 := Lib.hid (HT1.out.then_below hb2)
  have HO2 := Lib.hid ho2
  have hsl := HS1.out.bk.lt
  have c0 : w2.cell? ⟨sv, 1 + 4 * i, none⟩ = some (.slice A n cp) := by rw [HS2.out.bk.cell, (svA_get cs hi).1, HE1.out]
  have z0 := HS2.out.bk.thaw (1 + 4 * i)
  have hpv : ∀ ad, A2 = some ad → ad.block ≠ sv ∧ ad.block ≠ b := by
    intro ad e
    have hbv := HLy.out.b
    rcases HO2.out.open_ with ⟨h1, _⟩ | ⟨g, cap, h1, h2, _⟩
    · injection h1 with h3 _ _
      rw [h3] at e
      cases e
    · injection h1 with h3 _ _
      rw [h3] at e
      injection e with e
      subst e
      simp only
      omega
  have HW : Hid (∀ X, X = w2.setCell ⟨sv, 1 + 4 * i, none⟩ (.slice A2 (n + nb) c2) → SvAt X sv b r t g s tb gr me ws last cf (upC cs i ⟨.slice A2 (n + nb) c2, (cs i).past, (cs i).out, (cs i).aw⟩) ∧ CnAt X ⟨.slice A2 (n + nb) c2, (cs i).past, (cs i).out, (cs i).aw⟩ sv b (l ++ bs) p out ∧ Turned (fun j => j = sv ∨ j = b) w X) := by
    rintro X rfl
    have h := (⟨HS2.out.bk, Turned.refl _ _⟩ : SvW w2 w2 sv b cs).put (svA_set cs hi (.slice A2 (n + nb) c2)).1
    have hC3 := HC2.out.turned h.tu (fun _ h => .inl h)
    exact ⟨HS2.out.step HLy.out h, ⟨⟨_, _, _, rfl, RdB.turned HO2.out.rd h.tu (fun a e q => (hpv a e).1 q), hpv⟩, hC3.past, hC3.out⟩, HT2.out.trans h.tu (fun _ _ h => .inl h)⟩
  clear hb2 ho2 HCc hsl hpv HS1 HC1 HT1 e3
  go_wp2_with fail
  have hX := HW.out _ rfl
  generalize w2.setCell ⟨sv, 1 + 4 * i, none⟩ (.slice A2 (n + nb) c2) = w3 at hX ⊢
  have HBd := Lib.hid (svBody_any hX.1.bk hi (by rw [upC_same]; exact hX.2.1) (by rw [HLen.out]; omega) hp HLy.out.b)
  have HX := Lib.hid hX
  clear hX HW c0 z0
  with_reducible refine HBd.out.mono ?_
  intro er w4 hbody
  obtain ⟨A4, n4, c4, ok4, E4, v4, rfl, hp4, hw4, _, _⟩ := Bp.of_body (cs := cs) (cs1 := upC cs i ⟨.slice A2 (n + nb) c2, (cs i).past, (cs i).out, (cs i).aw⟩) (out0 := out) (E0 := []) Rn.nil (by rw [upC_same]) (fun v => upC_up cs i _ v) (by rw [List.flatMap_nil, List.append_nil]; exact hbody)
  have HS4 := Lib.hid (HX.out.1.step HLy.out hw4)
  have HT4 := Lib.hid (HX.out.2.2.trans hw4.tu (fun _ _ h => .inl h))
  have HP4 := Lib.hid hp4
  clear hbody hp4 hw4 HBd HX HS2 HC2 HT2 HO2
  go_wp2_with fail
  go_loopw [6, 7] (fun x ok wr => ∃ E v last' A n c k, x = .slice A n c ∧ ok = .bool k ∧ Hid (Bp wr sv b i cs (l ++ bs) p out E v (.slice A n c) k) ∧ Hid (SvAt wr sv b r t g s tb gr me ws last' cf (upC cs i v)) ∧ Hid (Turned (fun j => j = sv ∨ j = b) w wr) ∧ 0 ≤ last' ∧ last' ≤ last + E.length) (fun _ ok wr => 2 * svLen wr sv i + (match ok with | .bool true => 1 | _ => 0))
  case atStart => exact ⟨E4, v4, last, A4, n4, c4, ok4, rfl, rfl, HP4, HS4, HT4, hl0, by omega⟩
  case round =>
    obtain ⟨E, v, last', Ax, nx, cx, k, rfl, rfl, hP, hS, hT, hla, hlb⟩ := hrel
    clear HP4 HS4 HT4
    cases k with
    | false =>
      obtain ⟨l2, p2, hR, hv, h⟩ := hP.out
      obtain ⟨hst, hC⟩ : stepM l2 p2 = none ∧ CnAt wr v sv b (passM l2 p2) (leftM l2 p2) (out ++ E.flatMap evB) := by
        rcases h with ⟨_, h1, h2⟩ | ⟨h1, _⟩
        · exact ⟨h1, h2⟩
        · cases h1
      obtain ⟨Ai, ni, ci, f1, f2, f3⟩ := hC.inp
      have c0 : wr.cell? ⟨sv, 1 + 4 * i, none⟩ = some (.slice Ai ni ci) := by rw [hS.out.bk.cell, (svA_get _ hi).1, upC_same, f1]
      have hless := hR.less
      have hpl := pass_le l2 p2
      have hni : ni ≤ 1000000 := by rw [← f2.len]; have := HLen.out; omega
      have HCl := Lib.hid (clone_own Ai ni ci (passM l2 p2) wr f2 hni)
      have HR := Lib.hid hR
      have HCn := Lib.hid hC
      have HF1 := Lib.hid f1
      have hslr := Lib.hid hS.out.bk.lt
      clear h hP hR hC f1 f2 f3 hni
      go_wp2_with fail
      with_reducible refine HCl.out.mono ?_
      rintro er w5 ⟨u5, rfl, ho5, hb5⟩
      have HS5 := Lib.hid (hS.out.ext hb5)
      have z0 := HS5.out.bk.thaw (1 + 4 * i)
      have d0 : w5.cell? ⟨sv, 1 + 4 * i, none⟩ = some (.slice Ai ni ci) := by rw [HS5.out.bk.cell, (svA_get _ hi).1, upC_same, HF1.out]
      have HO5 := Lib.hid ho5
      have HC5 := Lib.hid (HCn.out.turned (Turned.of_below (P := fun _ => False) hb5) (fun _ h => h.elim))
      have HT5 := Lib.hid (hT.out.then_below hb5)
      obtain ⟨Au, cu, hu, _⟩ := ho5.reads
      subst hu
      clear hb5 ho5 HCl hS hT HCn
      go_wp2_with fail
      go_end0
      have hw := (⟨HS5.out.bk, Turned.refl _ _⟩ : SvW w5 w5 sv b _).put (svA_set _ hi (.slice Au (passM l2 p2).length cu)).1
      rw [upC_same, upC_up] at hw
      have hC6 := HC5.out.turned hw.tu (fun _ h => .inl h)
      have hsl := hslr.out
      have hbv := HLy.out.b
      have hpu : ∀ ad, Au = some ad → ad.block ≠ sv ∧ ad.block ≠ b := by
        intro ad e
        rcases HO5.out.open_ with ⟨h1, _⟩ | ⟨g, cap, h1, h2, _⟩
        · injection h1 with h3 _ _
          rw [h3] at e
          cases e
        · injection h1 with h3 _ _
          rw [h3] at e
          injection e with e
          subst e
          simp only
          omega
      exact ⟨rfl, E, l2, p2, ⟨.slice Au (passM l2 p2).length cu, v.past, v.out, v.aw⟩, last', HR.out, hst, ⟨⟨_, _, _, rfl, RdB.turned HO5.out.rd hw.tu (fun a e q => (hpu a e).1 q), hpu⟩, hC6.past, hC6.out⟩, hv, HS5.out.step HLy.out hw, hla, hlb, HT5.out.trans hw.tu (fun _ _ h => .inl h)⟩
    | true =>
      obtain ⟨l2, p2, hR, hv, h⟩ := hP.out
      obtain ⟨X, l3, p3, hst, hX, hXp, hC⟩ : ∃ X l3 p3, stepM l2 p2 = some (.frame X, l3, p3) ∧ RdB wr Ax nx cx X ∧ (∀ ad, Ax = some ad → ad.block ≠ sv ∧ ad.block ≠ b) ∧ CnAt wr v sv b l3 p3 (out ++ E.flatMap evB) := by
        rcases h with ⟨h1, _⟩ | ⟨_, X, l3, p3, A, n, c, h1, h2, h3, h4, h5⟩
        · cases h1
        · injection h2 with q1 q2 q3
          subst q1 q2 q3
          exact ⟨X, l3, p3, h1, h3, h4, h5⟩
      have hless := hR.less
      have hnx : nx ≤ 1000000 := by
        rw [← hX.len]
        have h1 := step_less hst
        have h2 := frame_le hst
        have := HLen.out
        omega
      have hR2 : Hid (Rn (l ++ bs) p (E ++ [Ev.frame X]) l3 p3) := Rn.snoc hR hst
      have hol : Hid ((out ++ E.flatMap evB).length ≤ 900000) := by
        show _ ≤ _
        rw [List.length_append, outs_len]
        have := HLen.out
        omega
      have hwr := HRd.out E l2 p2 X l3 p3
      clear h hP
      cases hg : getA X with
      | error k =>
        obtain ⟨co, ke⟩ := k
        have HGet := Lib.hid (aget_err Ax nx cx X wr hX hnx co ke hg)
        have hev : evR (.frame X) = (co, ke) := by show (match getA X with | .error k => k | .ok a => (a.corr, servE a.kind)) = _; rw [hg]
        have HC := Lib.hid hC
        clear hg hX hC hst hwr
        go_wp2_with (first | (go_at_call 14; go_loud ((with_reducible refine HGet.out.mono ?_); rintro er w5 ⟨A5, n5, c5, v5, d5, rfl, _, hd5, he5, hb5⟩; have hne := he5.neq; have hgd := he5.gneq)) | fail)
        have hba := hb5.trans (below_le hb5.size (below_new w5 (.cells #[.int .i64 co, .int .i64 0, .string ⟨#[]⟩, .string ⟨#[]⟩, .int .i64 0, .int .i64 0, .int .i64 0, .int .i64 0, .int .i64 0, .int .i64 0, .int .i64 0, .int .i64 0, .int .i64 0, .slice A5 n5 c5] 32)))
        have hka := Bk.made w5 32 #[.int .i64 co, .int .i64 0, .string ⟨#[]⟩, .string ⟨#[]⟩, .int .i64 0, .int .i64 0, .int .i64 0, .int .i64 0, .int .i64 0, .int .i64 0, .int .i64 0, .int .i64 0, .int .i64 0, .slice A5 n5 c5]
        generalize w5.alloc (.cells #[.int .i64 co, .int .i64 0, .string ⟨#[]⟩, .string ⟨#[]⟩, .int .i64 0, .int .i64 0, .int .i64 0, .int .i64 0, .int .i64 0, .int .i64 0, .int .i64 0, .int .i64 0, .int .i64 0, .slice A5 n5 c5] 32) = wa at hba hka ⊢
        have hg1 : w5.heap.size ≠ sv := by have := hS.out.bk.lt; have := hb5.size; omega
        generalize w5.heap.size = ga at hka hg1 ⊢
        have HSa := Lib.hid (hS.out.ext hba)
        have HCa := Lib.hid (HC.out.turned (Turned.of_below (P := fun _ => False) hba) (fun _ h => h.elim))
        have HTa := Lib.hid (hT.out.then_below hba)
        have HKa := Lib.hid hka
        clear hba hka hb5 hne hgd
        have FS : Hid (∀ v, Below wa.heap.size wa v → v.cell? ⟨ga, 0, none⟩ = some (.int .i64 co)) := fun v hv => (HKa.out.ext hv).cell 0
        have B0 : Hid (Below wa.heap.size wa wa.drew) := below_drew1 (Below.refl _ _)
        have HKd := Lib.hid (kind_err3 he5 hd5 wa.drew (HSa.out.el.below B0.out))
        go_region_held3 (fun v => v.cell? ⟨ga, 0, none⟩ = some (.int .i64 co)) (first | exact FS.out _ B0.out | exact FS.out _ B6.out | exact hc7 | fail) (first | (go_at_call 15; go_loud ((with_reducible refine HKd.out.mono ?_); rintro er w6 ⟨rfl, hb6⟩; have B6 := Lib.hid (B0.out.trans (below_le B0.out.size hb6)); clear hb6)) | (go_at_call 63; go_loud ((with_reducible refine (say_step (HSa.out.ext B6.out) HLy.out hi (HCa.out.turned (Turned.of_below (P := fun _ => False) B6.out) (fun _ h => h.elim)) hol.out hev).mono ?_); rintro er w7 ⟨rfl, v7, hv7, hS7, hC7, hT7⟩; have hc7 := (turned_cell hT7 (p := ⟨ga, 0, none⟩) (cell_lt (FS.out _ B6.out)) hg1).trans (FS.out _ B6.out))) | fail)
        have TT7 := (HTa.out.then_below B6.out).trans hT7 (fun _ _ h => .inl h)
        all_goals
          have hR2l := hR2.out.less
          have hoL := outs_len E
          have hBy := svBody_any hS7.bk hi (by rw [upC_same]; exact hC7) (by
            rw [List.length_append, List.length_append, hoL, evB_len]
            rw [List.length_append, List.length_singleton] at hR2l
            have := HLen.out
            omega) (by omega) HLy.out.b
          have HBy := Lib.hid hBy
          have HS7 := Lib.hid hS7
          have HT7 : Hid (Turned (fun j => j = sv ∨ j = b) w w7) := TT7
          have HLw : Hid (svLen wr sv i = l3.length) := CnAt.len hi hS.out.bk (by rw [upC_same]; exact HC.out)
          clear hBy hS7 hC7 hT7
          go_wp2_with fail
          with_reducible refine HBy.out.mono ?_
          intro er w8 hbody
          have hfe : out ++ E.flatMap evB ++ evB (.frame X) = out ++ (E ++ [Ev.frame X]).flatMap evB := by
            rw [List.flatMap_append, List.append_assoc]
            simp
          rw [hfe] at hbody
          obtain ⟨A8, n8, c8, ok8, E8, v8, rfl, hp8, hw8, hm8, hE8⟩ := Bp.of_body (cs := cs) (cs1 := upC cs i v7) (out0 := out) (E0 := E ++ [Ev.frame X]) hR2.out (by rw [upC_same]; exact hv7.trans hv) (fun u => upC_up cs i _ u) hbody
          have HS8 := Lib.hid (HS7.out.step HLy.out hw8)
          have HT8 := Lib.hid (HT7.out.trans hw8.tu (fun _ _ h => .inl h))
          have HP8 := Lib.hid hp8
          clear hbody hfe HBy
          go_wp2_with fail
          obtain ⟨Ai, ni, ci, q1⟩ : ∃ Ai ni ci, v8.inp = .slice Ai ni ci := by
            obtain ⟨_, _, _, _, h⟩ := HP8.out
            rcases h with ⟨_, _, h⟩ | ⟨_, _, _, _, _, _, _, _, _, _, _, h⟩
            · obtain ⟨a, n, c, e, _⟩ := h.inp
              exact ⟨a, n, c, e⟩
            · obtain ⟨a, n, c, e, _⟩ := h.inp
              exact ⟨a, n, c, e⟩
          rw [List.length_append, List.length_singleton] at hE8
          refine ⟨⟨E8, v8, last', A8, n8, c8, ok8, rfl, rfl, HP8, HS8, HT8, by omega, by omega⟩, ?_⟩
          rw [svLen_of hi HS8.out.bk q1, HLw.out]
          have := hm8 _ _ _ q1
          refine Nat.lt_of_le_of_lt this ?_
          simp
      | ok a =>
        have HGet := Lib.hid (aget_ok Ax nx cx X wr hX hnx a hg)
        have hev : evR (.frame X) = (a.corr, servE a.kind) := by show (match getA X with | .error k => k | .ok a => (a.corr, servE a.kind)) = _; rw [hg]
        have HC := Lib.hid hC
        have hra := (getA_inv hg).1
        have hwk := hwr a hR hst hg
        have HRa := Lib.hid hra
        have HWk := Lib.hid hwk
        clear hg hX hC hst hwr hra hwk
        go_wp2_with (first | (go_at_call 14; go_loud ((with_reducible refine HGet.out.mono ?_); rintro er w5 ⟨A5, n5, c5, rfl, hr5, hb5, hp5⟩)) | fail)
        have hba := hb5.trans (below_le hb5.size (below_new w5 (.cells (askC a.corr a.kind a.topic a.group a.part a.parts a.first a.off a.most a.time a.bat.time a.bat.prod a.bat.seq A5 n5 c5) 32)))
        have hka := Bk.made w5 32 (askC a.corr a.kind a.topic a.group a.part a.parts a.first a.off a.most a.time a.bat.time a.bat.prod a.bat.seq A5 n5 c5)
        have hra5 := RdT.ext hr5 (below_new w5 (.cells (askC a.corr a.kind a.topic a.group a.part a.parts a.first a.off a.most a.time a.bat.time a.bat.prod a.bat.seq A5 n5 c5) 32))
        have hsv := hS.out.bk.lt
        have hbv := HLy.out.b
        have hlt5 : wr.heap.size ≤ w5.heap.size := hb5.size
        generalize w5.alloc (.cells (askC a.corr a.kind a.topic a.group a.part a.parts a.first a.off a.most a.time a.bat.time a.bat.prod a.bat.seq A5 n5 c5) 32) = wa at hba hka hra5 ⊢
        have hga : w5.heap.size ≠ b := by omega
        generalize w5.heap.size = ga at hka hga ⊢
        have hAb : ∀ ad, A5 = some ad → ad.block ≠ b := fun ad e => by have := hp5 ad e; omega
        have HSa := Lib.hid (hS.out.ext hba)
        have HCa := Lib.hid (HC.out.turned (Turned.of_below (P := fun _ => False) hba) (fun _ h => h.elim))
        have HTa := Lib.hid (hT.out.then_below hba)
        have HKa := Lib.hid hka
        have HRa5 := Lib.hid hra5
        have HAb := Lib.hid hAb
        have hlw : t < wa.heap.size ∧ g < wa.heap.size ∧ s < wa.heap.size ∧ tb < wa.heap.size := by
          have := HLy.out.b2
          have := hba.size
          omega
        have hlE : last' ≤ 900000 := by have := HLen.out; omega
        clear hba hka hra5 hb5 hr5 hp5 hAb hsv
        have FS : Hid (∀ v, Turned (fun j => j = b) wa v → (Turned (fun j => j = b) wa v ∧ v.cell? ⟨sv, 0, none⟩ = some (.pointer (some ⟨b, 0, none⟩)) ∧ (ldA (.pointer (some ⟨ga, 0, none⟩))).run Tryz.prog v = .ok (.agg (askC a.corr a.kind a.topic a.group a.part a.parts a.first a.off a.most a.time a.bat.time a.bat.prod a.bat.seq A5 n5 c5)) v)) := fun v hv => ⟨hv, (HSa.out.bk.turned hv (by have := HLy.out.b; omega)).cell 0, ldA_bk (HKa.out.turned hv hga)⟩
        have HSv : Hid (∀ v, Below wa.heap.size wa v → Calls Tryz.prog 64 #[.pointer (some ⟨b, 0, none⟩), .agg (askC a.corr a.kind a.topic a.group a.part a.parts a.first a.off a.most a.time a.bat.time a.bat.prod a.bat.seq A5 n5 c5)] v fun e w' => e = .returned (.tuple #[.int .i64 (last' + 1), .agg (rpC a.corr (servE a.kind) 0 0), .bool true]) ∧ BrkAt w' b r t g s tb gr me ws (last' + 1) cf ∧ Turned (fun i => i = b) v w') := fun v hv => bServe_any (HSa.out.br.ext hv) (HSa.out.el.below hv) HLy.out.b1 (by have := hv.size; omega) hla (by omega) a A5 n5 c5 (HRa5.out.ext hv) HAb.out HRa.out HWk.out
        have KT : Hid (∀ (v : World) (R : Prop), Turned (fun j => j = b) wa v ∧ R → Turned (fun j => j = b) wa v) := fun v R h => h.1
        have B0 : Hid (Below wa.heap.size wa wa.drew) := below_drew1 (Below.refl _ _)
        have B1 : Hid (Below wa.heap.size wa (wa.alloc (.cells #[.int .i64 0, .int .i64 0, .int .i64 0, .int .i64 0, .slice none 0 0, .slice none 0 0] 43)).drew) := below_drew1 (below_new wa (.cells #[.int .i64 0, .int .i64 0, .int .i64 0, .int .i64 0, .slice none 0 0, .slice none 0 0] 43))
        go_region_held3 (fun v => Turned (fun j => j = b) wa v ∧ v.cell? ⟨sv, 0, none⟩ = some (.pointer (some ⟨b, 0, none⟩)) ∧ (ldA (.pointer (some ⟨ga, 0, none⟩))).run Tryz.prog v = .ok (.agg (askC a.corr a.kind a.topic a.group a.part a.parts a.first a.off a.most a.time a.bat.time a.bat.prod a.bat.seq A5 n5 c5)) v) (first | exact FS.out _ (Turned.of_below B0.out) | exact FS.out _ (Turned.of_below B1.out) | exact FS.out _ T6.out | exact FS.out _ (T6.out.then_below (below_new _ _)) | exact FS.out _ ((KT.out _ _ (by assumption)).then_grown (grown_row _ _ _) (fun k e => .inr (by rw [← Option.some.inj e]; first | exact Nat.le_refl _ | exact T6.out.size))) | fail) (first | (go_at_call 64; go_loud ((with_reducible refine (HSv.out _ B0.out).mono ?_); rintro er w6 ⟨rfl, hb6, ht6⟩; have T6 := Lib.hid ((Turned.of_below (P := fun j => j = b) B0.out).trans ht6 (fun _ _ h => h)); have hI6 : ∀ G, isRp wa G → isRp w6 G := fun G h => (h.ext B0.out).serve (HSa.out.br.bk.ext B0.out) ht6)) | (go_at_call 64; go_loud ((with_reducible refine (HSv.out _ B1.out).mono ?_); rintro er w6 ⟨rfl, hb6, ht6⟩; have T6 := Lib.hid ((Turned.of_below (P := fun j => j = b) B1.out).trans ht6 (fun _ _ h => h)); have hI6 : isRp w6 wa.heap.size := ((isRp_drew _ _).2 ((isRp_alloc _ _).2 (.inr rfl))).serve (HSa.out.br.bk.ext B1.out) ht6)) | fail)
        · have hf := serve_row HSa.out HLy.out hb6 T6.out (below_new _ _) ((isRp_alloc _ _).2 (.inr rfl)) T6.out.size HCa.out a.corr (servE a.kind)
          have HF := Lib.hid hf
          clear hf
          generalize (w6.alloc (.cells #[.int .i64 0, .int .i64 0, .int .i64 0, .int .i64 0, .slice none 0 0, .slice none 0 0] 43)).setRow w6.heap.size (rpC a.corr (servE a.kind) 0 0) = wy at HF ⊢
          have hldr := ldRp_bk HF.out.2.2.2
          have HSy := Lib.hid (say_step HF.out.1 HLy.out hi HF.out.2.1 hol.out hev)
          have HTy := Lib.hid (HTa.out.trans HF.out.2.2.1 (fun _ _ h => .inr h))
          go_wp2_with fail
          with_reducible refine HSy.out.mono ?_
          rintro er w7 ⟨rfl, v7, hv7, hS7, hC7, hT7⟩
          have TT7 := HTy.out.trans hT7 (fun _ _ h => .inl h)
          clear hldr HSy
          have hR2l := hR2.out.less
          have hoL := outs_len E
          have hBy := svBody_any hS7.bk hi (by rw [upC_same]; exact hC7) (by
            rw [List.length_append, List.length_append, hoL, evB_len]
            rw [List.length_append, List.length_singleton] at hR2l
            have := HLen.out
            omega) (by omega) HLy.out.b
          have HBy := Lib.hid hBy
          have HS7 := Lib.hid hS7
          have HT7 : Hid (Turned (fun j => j = sv ∨ j = b) w w7) := TT7
          have HLw : Hid (svLen wr sv i = l3.length) := CnAt.len hi hS.out.bk (by rw [upC_same]; exact HC.out)
          clear hBy hS7 hC7 hT7
          go_wp2_with fail
          with_reducible refine HBy.out.mono ?_
          intro er w8 hbody
          have hfe : out ++ E.flatMap evB ++ evB (.frame X) = out ++ (E ++ [Ev.frame X]).flatMap evB := by
            rw [List.flatMap_append, List.append_assoc]
            simp
          rw [hfe] at hbody
          obtain ⟨A8, n8, c8, ok8, E8, v8, rfl, hp8, hw8, hm8, hE8⟩ := Bp.of_body (cs := cs) (cs1 := upC cs i v7) (out0 := out) (E0 := E ++ [Ev.frame X]) hR2.out (by rw [upC_same]; exact hv7.trans hv) (fun u => upC_up cs i _ u) hbody
          have HS8 := Lib.hid (HS7.out.step HLy.out hw8)
          have HT8 := Lib.hid (HT7.out.trans hw8.tu (fun _ _ h => .inl h))
          have HP8 := Lib.hid hp8
          clear hbody hfe HBy
          go_wp2_with fail
          obtain ⟨Ai, ni, ci, q1⟩ : ∃ Ai ni ci, v8.inp = .slice Ai ni ci := by
            obtain ⟨_, _, _, _, h⟩ := HP8.out
            rcases h with ⟨_, _, h⟩ | ⟨_, _, _, _, _, _, _, _, _, _, _, h⟩
            · obtain ⟨a, n, c, e, _⟩ := h.inp
              exact ⟨a, n, c, e⟩
            · obtain ⟨a, n, c, e, _⟩ := h.inp
              exact ⟨a, n, c, e⟩
          rw [List.length_append, List.length_singleton] at hE8
          refine ⟨⟨E8, v8, last' + 1, A8, n8, c8, ok8, rfl, rfl, HP8, HS8, HT8, by omega, by omega⟩, ?_⟩
          rw [svLen_of hi HS8.out.bk q1, HLw.out]
          have := hm8 _ _ _ q1
          refine Nat.lt_of_le_of_lt this ?_
          simp
        · have hf := serve_row HSa.out HLy.out hb6 T6.out (Below.refl _ _) hI6 (Nat.le_refl _) HCa.out a.corr (servE a.kind)
          have HF := Lib.hid hf
          clear hf
          generalize w6.setRow wa.heap.size (rpC a.corr (servE a.kind) 0 0) = wy at HF ⊢
          have hldr := ldRp_bk HF.out.2.2.2
          have HSy := Lib.hid (say_step HF.out.1 HLy.out hi HF.out.2.1 hol.out hev)
          have HTy := Lib.hid (HTa.out.trans HF.out.2.2.1 (fun _ _ h => .inr h))
          go_wp2_with fail
          with_reducible refine HSy.out.mono ?_
          rintro er w7 ⟨rfl, v7, hv7, hS7, hC7, hT7⟩
          have TT7 := HTy.out.trans hT7 (fun _ _ h => .inl h)
          clear hldr HSy
          have hR2l := hR2.out.less
          have hoL := outs_len E
          have hBy := svBody_any hS7.bk hi (by rw [upC_same]; exact hC7) (by
            rw [List.length_append, List.length_append, hoL, evB_len]
            rw [List.length_append, List.length_singleton] at hR2l
            have := HLen.out
            omega) (by omega) HLy.out.b
          have HBy := Lib.hid hBy
          have HS7 := Lib.hid hS7
          have HT7 : Hid (Turned (fun j => j = sv ∨ j = b) w w7) := TT7
          have HLw : Hid (svLen wr sv i = l3.length) := CnAt.len hi hS.out.bk (by rw [upC_same]; exact HC.out)
          clear hBy hS7 hC7 hT7
          go_wp2_with fail
          with_reducible refine HBy.out.mono ?_
          intro er w8 hbody
          have hfe : out ++ E.flatMap evB ++ evB (.frame X) = out ++ (E ++ [Ev.frame X]).flatMap evB := by
            rw [List.flatMap_append, List.append_assoc]
            simp
          rw [hfe] at hbody
          obtain ⟨A8, n8, c8, ok8, E8, v8, rfl, hp8, hw8, hm8, hE8⟩ := Bp.of_body (cs := cs) (cs1 := upC cs i v7) (out0 := out) (E0 := E ++ [Ev.frame X]) hR2.out (by rw [upC_same]; exact hv7.trans hv) (fun u => upC_up cs i _ u) hbody
          have HS8 := Lib.hid (HS7.out.step HLy.out hw8)
          have HT8 := Lib.hid (HT7.out.trans hw8.tu (fun _ _ h => .inl h))
          have HP8 := Lib.hid hp8
          clear hbody hfe HBy
          go_wp2_with fail
          obtain ⟨Ai, ni, ci, q1⟩ : ∃ Ai ni ci, v8.inp = .slice Ai ni ci := by
            obtain ⟨_, _, _, _, h⟩ := HP8.out
            rcases h with ⟨_, _, h⟩ | ⟨_, _, _, _, _, _, _, _, _, _, _, h⟩
            · obtain ⟨a, n, c, e, _⟩ := h.inp
              exact ⟨a, n, c, e⟩
            · obtain ⟨a, n, c, e, _⟩ := h.inp
              exact ⟨a, n, c, e⟩
          rw [List.length_append, List.length_singleton] at hE8
          refine ⟨⟨E8, v8, last' + 1, A8, n8, c8, ok8, rfl, rfl, HP8, HS8, HT8, by omega, by omega⟩, ?_⟩
          rw [svLen_of hi HS8.out.bk q1, HLw.out]
          have := hm8 _ _ _ q1
          refine Nat.lt_of_le_of_lt this ?_
          simp
end Go.Proofs.YtkdlofgfkfhofaaGreatDoor
