import Derived.Test.YtkdlofgfkfhofaaGreatDoorP41
import Derived.Test.YtkdlofgfkfhofaaGreatDoorP00
import Derived.Test.YtkdlofgfkfhofaaGreatDoorP01
import Derived.Test.YtkdlofgfkfhofaaGreatDoorP24
import Derived.Test.YtkdlofgfkfhofaaGreatDoorP32
import Derived.LaidMore
import Derived.Lay
import Derived.Stop.Joined
import Derived.LaidHandle
/-
  stavelaw25: ServerRuns.
-/
namespace Go.Proofs.YtkdlofgfkfhofaaGreatDoor
open Go.RowKit Go.Maps

theorem at_one {id m n : Nat} (h1 : 1 ≤ id) (h2 : id ≤ 100) (h3 : 1 ≤ m) (h4 : m ≤ 60) (h5 : 1 ≤ n) (h6 : n ≤ 8) : (⟨id, ((1 : Nat) : Int), n, m, ((1 : Nat) : Int)⟩ : CfgM).At n (2 + m) := by
  refine ⟨?_, rfl, ?_⟩
  · unfold CfgM.right inB
    simp only [Bool.and_eq_true, decide_eq_true_eq]
    omega
  · unfold CfgM.sectors
    simp only
    omega
/-- a listing -/
def askL (co : Int) : Ask := ⟨co, 6, nul, nul, 0, 0, 0, 0, 0, 0, noB⟩
theorem askL_right {co : Int} (h0 : 0 ≤ co) (h1 : co ≤ 4294967295) : rightA (askL co) = true := by
  unfold rightA askL
  simp only [show writK 6 = false from by decide]
  rw [decide_eq_true h0, decide_eq_true h1, if_neg (by decide)]
  exact (by decide : readsA (askL 0) = true)
theorem put7 : putA (askL 7) = [1, 6, 7, 0, 0, 0] := by decide
theorem fr7 : frA (askL 7) = [6, 0, 1, 6, 7, 0, 0, 0] := by unfold frA; rw [put7]; rfl
theorem get7 : getA [1, 6, 7, 0, 0, 0] = .ok (askL 7) := by rw [← put7]; exact getA_put (askL_right (by omega) (by omega))
theorem rd7 : Rd1 (.frame [1, 6, 7, 0, 0, 0]) := by
  intro X a h1 h2
  injection h1 with h1
  subst h1
  rw [get7] at h2
  injection h2 with h2
  subst h2
  decide
theorem ev7 : evR (.frame [1, 6, 7, 0, 0, 0]) = (7, 0) := by
  show (match getA [1, 6, 7, 0, 0, 0] with | .error k => k | .ok a => (a.corr, servE a.kind)) = _
  rw [get7]
  rfl
theorem zC_at (w : World) (sv b : Nat) : CnAt w zC sv b [] 0 ([].flatMap evB) := ⟨⟨none, 0, 0, rfl, Rd.nil _ _, fun _ h => by cases h⟩, rfl, ⟨none, 0, 0, rfl, Rd.nil _ _, fun _ h => by cases h⟩⟩
theorem all_three (n : Nat) : allM n [6, 0, 1] 0 = [] := by
  cases n with
  | zero => rfl
  | succ n =>
    show (match stepM [6, 0, 1] 0 with | none => [] | some (e, l2, p2) => e :: allM n l2 p2) = _
    have : stepM [6, 0, 1] 0 = none := by
      unfold stepM
      rw [(pass_zero _).1]
      rfl
    rw [this]
theorem all_seven (n : Nat) (r : List UInt8) : allM (n + 1) ([6, 0, 1, 6, 7, 0, 0, 0] ++ r) 0 = .frame [1, 6, 7, 0, 0, 0] :: allM n r 0 := all_fr n [1, 6, 7, 0, 0, 0] r (by decide)
abbrev cf9 : CfgM := ⟨(9 : Nat), (1 : Nat), (1 : Nat), (2 : Nat), (1 : Nat)⟩
/-- three bytes of it came -/
structure Run1 (w w' : World) (sv b r t g s tb gr : Nat) (me : Value) : Prop where
  at_ : ∃ v l p last, SvAt w' sv b r t g s tb gr me (.slice none 0 0) last cf9 (upC zCs 0 v) ∧ CnAt w' v sv b l p ([].flatMap evB) ∧ Fed [6, 0, 1] [] l p ∧ 0 ≤ last ∧ last ≤ 0
  tu : Turned (fun j => j = sv ∨ j = b) w w'
/-- all of it came -/
structure Run2 (w w' : World) (sv b r t g s tb gr : Nat) (me : Value) : Prop where
  at_ : ∃ v l p last, SvAt w' sv b r t g s tb gr me (.slice none 0 0) last cf9 (upC zCs 0 v) ∧ CnAt w' v sv b l p ([Ev.frame [1, 6, 7, 0, 0, 0]].flatMap evB) ∧ Fed [6, 0, 1, 6, 7, 0, 0, 0] [Ev.frame [1, 6, 7, 0, 0, 0]] l p ∧ 0 ≤ last ∧ last ≤ 1
  tu : Turned (fun j => j = sv ∨ j = b) w w'
theorem runs_do1 {w : World} {sv b r t g s tb gr : Nat} {me : Value} (hS : SvAt w sv b r t g s tb gr me (.slice none 0 0) 0 cf9 zCs) (hl : SvL sv b t g s tb) {A : Option Addr} {c : Nat} (hb : RdB w A 3 c ([6, 0, 1, 6, 7, 0, 0, 0].take 3)) :
    Calls Tryz.prog 10 #[.pointer (some ⟨sv, 0, none⟩), .agg (stepC 1 0 0 0 0 0 A 3 c)] w fun e w' => e = .returned (.bool true) ∧ Run1 w w' sv b r t g s tb gr me := by
  have h := svDo_fed (i := 0) hS hl (by omega) (zC_at w sv b) fed_nil hb 5000 (by simp) (by simp) (by omega) (by simp) (fun e he => by
    rw [show ([] : List UInt8) ++ [6, 0, 1, 6, 7, 0, 0, 0].take 3 = [6, 0, 1] from rfl, all_three] at he
    cases he)
  rw [show ((0 : Nat) : Int) = 0 from rfl, show ([] : List UInt8) ++ [6, 0, 1, 6, 7, 0, 0, 0].take 3 = [6, 0, 1] from rfl, all_three] at h
  refine h.mono ?_
  rintro e w' ⟨rfl, E', l', p', v, last', a0, a1, a2, a3, a4, a5, a6, a7⟩
  cases E' with
  | cons x E' => cases a0
  | nil => exact ⟨rfl, ⟨v, l', p', last', a4, a2, a1, a5, a6⟩, a7⟩
theorem all_8 : allM 5000 ([6, 0, 1] ++ [6, 0, 1, 6, 7, 0, 0, 0].drop 3) 0 = [Ev.frame [1, 6, 7, 0, 0, 0]] := by
  rw [show [6, 0, 1] ++ [6, 0, 1, 6, 7, 0, 0, 0].drop 3 = [6, 0, 1, 6, 7, 0, 0, 0] ++ ([] : List UInt8) from rfl, all_seven 4999, all_nil]
theorem runs_do2 {w0 w : World} {sv b r t g s tb gr : Nat} {me : Value} (hR : Run1 w0 w sv b r t g s tb gr me) (hl : SvL sv b t g s tb) {A : Option Addr} {c : Nat} (hb : RdB w A 5 c ([6, 0, 1, 6, 7, 0, 0, 0].drop 3)) :
    Calls Tryz.prog 10 #[.pointer (some ⟨sv, 0, none⟩), .agg (stepC 1 0 0 0 0 0 A 5 c)] w fun e w' => e = .returned (.bool true) ∧ Run2 w0 w' sv b r t g s tb gr me := by
  obtain ⟨⟨v, l, p, last, hS, hC, hF, h0, h1⟩, hT⟩ := hR
  have h := svDo_fed (i := 0) hS hl (by omega) (by rw [upC_same]; exact hC) hF hb 5000 (by simp) (by simp) h0 (by simp; omega) (fun e he => by
    rw [all_8] at he
    rw [List.mem_singleton] at he
    subst he
    exact rd7)
  rw [show ((0 : Nat) : Int) = 0 from rfl, all_8] at h
  refine h.mono ?_
  rintro e w' ⟨rfl, E', l', p', v', last', a0, a1, a2, a3, a4, a5, a6, a7⟩
  rw [List.nil_append] at a0
  subst a0
  rw [upC_up] at a4
  exact ⟨rfl, ⟨v', l', p', last', a4, a2, a1, a5, by simp at a6; omega⟩, hT.trans a7 fun _ _ h => h⟩
/-- its reply was taken -/
structure Run3 (w w' : World) (sv b r t g s tb gr : Nat) (me : Value) : Prop where
  at_ : ∃ v l p last, SvAt w' sv b r t g s tb gr me (.slice none 0 0) last cf9 (upC zCs 0 v) ∧ CnAt w' v sv b l p ([].flatMap evB) ∧ Fed [6, 0, 1, 6, 7, 0, 0, 0] [Ev.frame [1, 6, 7, 0, 0, 0]] l p ∧ 0 ≤ last ∧ last ≤ 1
  tu : Turned (fun j => j = sv ∨ j = b) w w'
theorem runs_one {w0 w : World} {sv b r t g s tb gr : Nat} {me : Value} (hR : Run2 w0 w sv b r t g s tb gr me) (hl : SvL sv b t g s tb) :
    Calls Tryz.prog 11 #[.pointer (some ⟨sv, 0, none⟩), .int .i64 0] w fun e w' => ∃ A c A0 c0, e = .returned (.slice A 1 c) ∧ RdK w' 6 A 1 c [[.int .i64 7, .int .i64 0, .int .i64 0, .int .i64 0, .slice A0 0 c0, .slice none 0 0]] ∧ (∀ ad, A = some ad → w.heap.size ≤ ad.block) ∧ w.heap.size ≤ w'.heap.size ∧ sv < w.heap.size ∧ Run3 w0 w' sv b r t g s tb gr me := by
  obtain ⟨⟨v, l, p, last, hS, hC, hF, h0, h1⟩, hT⟩ := hR
  have h := one_any (i := 0) hS hl (by omega) (by rw [upC_same]; exact hC) (by simp)
  refine h.mono ?_
  rintro e w' ⟨A, c, L, v', rfl, a1, a2, a3, a4, a5, a6, a7⟩
  rw [upC_up] at a4
  match L, a1 with
  | [x], a1 =>
    have h := List.cons.inj a1
    have h7 : (x.co, x.er) = (7, 0) := h.1.trans ev7
    injection h7 with h7 h8
    have hc : x.cells = [.int .i64 7, .int .i64 0, .int .i64 0, .int .i64 0, .slice x.A 0 x.c, .slice none 0 0] := by
      unfold RpR.cells
      rw [h7, h8]
    have a2' : RdK w' 6 A 1 c [x.cells] := a2
    rw [hc] at a2'
    exact ⟨A, c, x.A, x.c, rfl, a2', a7, a6.size, hS.bk.lt, ⟨v', l, p, last, a4, a5, hF, h0, h1⟩, hT.trans a6 fun _ _ h => .inl h⟩
theorem all_2018 {z : List UInt8} (hz : List.replicate 2000 (0 : UInt8) = z) : allM 5000 ([6, 0, 1, 6, 7, 0, 0, 0] ++ ([208, 7] ++ z ++ [6, 0, 1, 6, 7, 0, 0, 0])) 0 = [Ev.frame [1, 6, 7, 0, 0, 0]] ++ [Ev.big, Ev.frame [1, 6, 7, 0, 0, 0]] := by
  have hl : z.length = 2000 := by rw [← hz, List.length_replicate]
  have e : [208, 7] ++ z = frU z := by
    unfold frU
    rw [hl]
    rfl
  rw [all_seven 4999, e, all_big 4998 z _ (by omega) (by omega), show [6, 0, 1, 6, 7, 0, 0, 0] = [6, 0, 1, 6, 7, 0, 0, 0] ++ ([] : List UInt8) from rfl, all_seven 4997, all_nil]
  rfl
/-- too great a frame, and the same again -/
structure Run4 (w w' : World) (sv b r t g s tb gr : Nat) (me : Value) : Prop where
  at_ : ∃ v l p last, SvAt w' sv b r t g s tb gr me (.slice none 0 0) last cf9 (upC zCs 0 v) ∧ CnAt w' v sv b l p ([Ev.big, Ev.frame [1, 6, 7, 0, 0, 0]].flatMap evB)
  tu : Turned (fun j => j = sv ∨ j = b) w w'
theorem runs_do3 {w0 w : World} {sv b r t g s tb gr : Nat} {me : Value} (hR : Run3 w0 w sv b r t g s tb gr me) (hl : SvL sv b t g s tb) {A : Option Addr} {c : Nat} {z : List UInt8} (hz : List.replicate 2000 (0 : UInt8) = z) (hb : RdB w A 2010 c ([208, 7] ++ z ++ [6, 0, 1, 6, 7, 0, 0, 0])) :
    Calls Tryz.prog 10 #[.pointer (some ⟨sv, 0, none⟩), .agg (stepC 1 0 0 0 0 0 A 2010 c)] w fun e w' => e = .returned (.bool true) ∧ Run4 w w' sv b r t g s tb gr me := by
  obtain ⟨⟨v, l, p, last, hS, hC, hF, h0, h1⟩, hT⟩ := hR
  have h := svDo_fed (i := 0) hS hl (by omega) (by rw [upC_same]; exact hC) hF hb 5000 (by simp) (by simp) h0 (by simp; omega) (fun e he => by
    rw [all_2018 hz] at he
    simp only [List.cons_append, List.nil_append, List.mem_cons, List.not_mem_nil, or_false] at he
    rcases he with rfl | rfl | rfl
    · exact rd7
    · exact rdBig
    · exact rd7)
  rw [show ((0 : Nat) : Int) = 0 from rfl, all_2018 hz] at h
  refine h.mono ?_
  rintro e w' ⟨rfl, E', l', p', v', last', a0, a1, a2, a3, a4, a5, a6, a7⟩
  have a0 := List.append_cancel_left a0
  subst a0
  rw [upC_up] at a4
  exact ⟨rfl, ⟨v', l', p', last', a4, a2⟩, a7⟩
theorem runs_two {w0 w : World} {sv b r t g s tb gr : Nat} {me : Value} (hR : Run4 w0 w sv b r t g s tb gr me) (hl : SvL sv b t g s tb) :
    Calls Tryz.prog 11 #[.pointer (some ⟨sv, 0, none⟩), .int .i64 0] w fun e w' => ∃ A c A0 c0 A1 c1, e = .returned (.slice A 2 c) ∧ RdK w' 6 A 2 c [[.int .i64 0, .int .i64 11, .int .i64 0, .int .i64 0, .slice A0 0 c0, .slice none 0 0], [.int .i64 7, .int .i64 0, .int .i64 0, .int .i64 0, .slice A1 0 c1, .slice none 0 0]] ∧ Turned (fun j => j = sv ∨ j = b) w0 w' := by
  obtain ⟨⟨v, l, p, last, hS, hC⟩, hT⟩ := hR
  have h := one_any (i := 0) hS hl (by omega) (by rw [upC_same]; exact hC) (by simp)
  refine h.mono ?_
  rintro e w' ⟨A, c, L, v', rfl, a1, a2, a3, a4, a5, a6, a7⟩
  match L, a1 with
  | [x, y], a1 =>
    have h := List.cons.inj a1
    have h1 : (x.co, x.er) = (0, 11) := h.1
    have h := List.cons.inj h.2
    have h2 : (y.co, y.er) = (7, 0) := h.1.trans ev7
    injection h1 with h1 h3
    injection h2 with h2 h4
    have hx : x.cells = [.int .i64 0, .int .i64 11, .int .i64 0, .int .i64 0, .slice x.A 0 x.c, .slice none 0 0] := by
      unfold RpR.cells
      rw [h1, h3]
    have hy : y.cells = [.int .i64 7, .int .i64 0, .int .i64 0, .int .i64 0, .slice y.A 0 y.c, .slice none 0 0] := by
      unfold RpR.cells
      rw [h2, h4]
    have a2' : RdK w' 6 A 2 c [x.cells, y.cells] := a2
    rw [hx, hy] at a2'
    exact ⟨A, c, x.A, x.c, y.A, y.c, rfl, a2', hT.trans a6 fun _ _ h => .inl h⟩
attribute [local go_sem ↓] sliced_past
attribute [local go_sem] pastA_zero
set_option maxRecDepth 100000 in
set_option maxHeartbeats 8000000 in
theorem serverRuns_any {w : World} (hL : ErrLaid w) :
    Calls Tryz.prog 3 #[] w fun e w' => e = .returned (.bool true) ∧ Below w.heap.size w w' := by
  have HNw : Hid (Calls Tryz.prog 8 #[.agg #[.int .i64 9, .int .i64 1, .int .i64 1, .int .i64 2, .int .i64 1]] w fun e w' => ∃ sv b r t g s tb gr me, e = .returned (.pointer (some ⟨sv, 0, none⟩)) ∧ SvAt w' sv b r t g s tb gr me (.slice none 0 0) 0 ⟨(9 : Nat), (1 : Nat), (1 : Nat), (2 : Nat), (1 : Nat)⟩ zCs ∧ SvL sv b t g s tb ∧ w.heap.size ≤ b ∧ (∃ o W, StoAt w' o r 1 4 W ∧ o b = none ∧ o sv = none) ∧ Below w.heap.size w w') := playNew_any 9 1 1 2 1 4 rfl (by omega) (by omega) (by omega) (by omega) (by omega) (at_one (by omega) (by omega) (by omega) (by omega) (by omega) (by omega)) (by omega) hL
  have HFr : Hid (∀ v : World, Calls Tryz.prog 9 #[.agg #[.int .i64 7, .int .i64 6, .string ⟨#[]⟩, .string ⟨#[]⟩, .int .i64 0, .int .i64 0, .int .i64 0, .int .i64 0, .int .i64 0, .int .i64 0, .int .i64 0, .int .i64 0, .int .i64 0, .slice none 0 0]] v fun er w' => ∃ A' c', er = .returned (.slice A' 8 c') ∧ OwnB w' v.heap.size (.slice A' 8 c') [6, 0, 1, 6, 7, 0, 0, 0] ∧ Below v.heap.size v w') := fun v => by
    have h := playFrame_any (askL 7) none 0 0 v (RdT.nil v)
    rw [fr7, put7] at h
    exact h
  clear hL
  go_enter Tryz.func3, Tryz.ntmps3
  go_wp2_with fail
  with_reducible refine HNw.out.mono ?_
  rintro er w1 ⟨sv, b, r, t, g, s, tb, gr, me, rfl, hS1, hL1, hb1, _, hbe1⟩
  have HB1 := Lib.hid hbe1
  have HS1 := Lib.hid hS1
  have HL1 := Lib.hid hL1
  have hsv1 : w.heap.size ≤ sv := by have := hL1.b; omega
  have HSv1 : Hid (sv < w1.heap.size) := hS1.bk.lt
  have hbw : w.heap.size ≤ b := hb1
  clear hbe1 hS1 hL1 HNw
  go_wp2_with fail
  with_reducible refine (HFr.out _).mono ?_
  rintro er w2 ⟨A2, c2, rfl, ho2, hb2⟩
  have hcap := ho2.rd.cap
  have hbig := ho2.rd.big
  have HO2 := Lib.hid ho2
  have HS2 := Lib.hid (HS1.out.ext hb2)
  have HB2 := Lib.hid (HB1.out.trans (below_le HB1.out.size hb2))
  clear ho2 hb2 HB1 HS1 HFr
  rcases OwnB.open_ HO2.out with ⟨_, hnil⟩ | ⟨g2, cap2, hv2, hg2, _⟩
  · cases hnil
  injection hv2 with hv2 _ hv3
  subst hv2 hv3
  have hi3 : (3 : Int) ≤ (c2 : Int) := by omega
  have hi8 : (8 : Int) ≤ (c2 : Int) := by omega
  have hsvl := HS2.out.bk.lt
  have hsl1 : sv < w1.heap.size := HSv1.out
  have hbl1 : b < w1.heap.size := by have := HL1.out.b; omega
  go_wp2_with fail
  have B0 : Hid (Below w2.heap.size w2 w2.drew) := below_drew1 (Below.refl _ _)
  have hr2 : RdB w2 (some ⟨g2, 0, none⟩) 8 c2 [6, 0, 1, 6, 7, 0, 0, 0] := HO2.out.rd
  have HD1 := Lib.hid (runs_do1 (HS2.out.ext B0.out) HL1.out ((hr2.upto 3 (by omega)).ext B0.out))
  have HR3 := Lib.hid ((hr2.past' 3 (by omega)).ext B0.out)
  have HR2 := Lib.hid hr2
  have hgl : ∀ a, pastA (some ⟨g2, 0, none⟩) 3 c2 1 = some a → ¬ (a.block = sv ∨ a.block = b) := by
    intro a h
    rw [pastA_some _ _ _ _ _ (by omega)] at h
    injection h with h
    subst h
    show ¬ (g2 = sv ∨ g2 = b)
    omega
  have FD2 : Hid (∀ w3, Run1 w2.drew w3 sv b r t g s tb gr me → Calls Tryz.prog 10 #[.pointer (some ⟨sv, 0, none⟩), .agg (stepC 1 0 0 0 0 0 (pastA (some ⟨g2, 0, none⟩) 3 c2 1) 5 (c2 - 3))] w3 fun e w' => e = .returned (.bool true) ∧ Run2 w2.drew w' sv b r t g s tb gr me) := fun w3 h => runs_do2 h HL1.out (HR3.out.turned h.tu hgl)
  clear hr2 hgl
  go_region_held3 (fun _ => True) (first | trivial) (first | (go_at_call 10; go_loud ((with_reducible refine HD1.out.mono ?_); rintro er w3 ⟨rfl, a1⟩)) | (go_at_call 10; go_loud ((with_reducible refine (FD2.out w3 a1).mono ?_); rintro er w4 ⟨rfl, a2⟩)) | fail)
  have HO := Lib.hid (runs_one a2 HL1.out)
  clear FD2 HD1 HR3 a1
  go_wp2_with fail
  with_reducible refine HO.out.mono ?_
  rintro er w5 ⟨A5, c5, A0, c0, rfl, hR5, hp5, hz5, hsv4, hT5⟩
  have HR5 := Lib.hid hR5
  have HT5 := Lib.hid hT5
  clear hR5 hT5 HO a2
  have HB5 : Hid (RdB w5 (some ⟨g2, 0, none⟩) 8 c2 [6, 0, 1, 6, 7, 0, 0, 0]) := RdB.turned (RdB.ext HR2.out B0.out) HT5.out.tu (fun a h => by
    injection h with h
    subst h
    show ¬ (g2 = sv ∨ g2 = b)
    omega)
  have hn6 := below_new w5 (.cells #[.int .u8 208, .int .u8 7] 5)
  have hk6 : Bk (w5.alloc (.cells #[.int .u8 208, .int .u8 7] 5)) w5.heap.size 5 #[.int .u8 (w8 208), .int .u8 (w8 7)] := Bk.made w5 5 #[.int .u8 208, .int .u8 7]
  obtain ⟨c7, w7, hrun7, ho7, hb7⟩ := append_zeros2 hk6 hn6.size 2000 (by omega) (by omega)
  rw [show 2 + 2000 = 2002 from rfl] at hrun7 ho7
  generalize hz7 : List.replicate 2000 (0 : UInt8) = z7 at ho7
  have hzl : z7.length = 2000 := by rw [← hz7, List.length_replicate]
  have HZ7 := Lib.hid hz7
  clear hz7
  have HB7 := Lib.hid (hn6.trans (below_le hn6.size hb7))
  have HO7 := Lib.hid ho7
  have HR7 := Lib.hid (HB5.out.ext HB7.out)
  clear hn6 hk6 ho7 hb7
  generalize (w5.alloc (.cells #[.int .u8 208, .int .u8 7] 5)).heap.size = g7 at *
  go_wp2_with (first | (at_builtin; go_loud (refine wpList_make rfl _ _ rfl rfl _ _ rfl rfl _ _ hrun7 ?_)) | (at_builtin; go_loud (refine wpList_append_bytes rfl (.tmp 28) (.tmp 29) rfl w5.heap.size w5 _ _ rfl HO7.out _ 8 c2 _ rfl HR7.out (by simp [hzl]) HB7.out HB7.out.size 2010 (by simp [hzl]) ?_); intro A8 c8 w8' ho8 hb8 hs8) | fail)
  have HR8 := Lib.hid (show RdB w8' A8 2010 c8 ([208, 7] ++ z7 ++ [6, 0, 1, 6, 7, 0, 0, 0]) from ho8.out.rd)
  have hT8 : Run3 w2.drew w8' sv b r t g s tb gr me := by
    obtain ⟨⟨v, l, p, last, q1, q2, q3, q4, q5⟩, q6⟩ := HT5.out
    exact ⟨⟨v, l, p, last, q1.ext hb8, q2.turned (Turned.of_below (P := fun _ => False) hb8) (fun _ h => h.elim), q3, q4, q5⟩, q6.then_below hb8⟩
  have HD3 := Lib.hid (runs_do3 hT8 HL1.out HZ7.out HR8.out)
  have HK8 := Lib.hid (HR5.out.ext hb8)
  have HBe : Hid (Below w.heap.size w w8') := by
    have h1 := HB2.out.trans (below_le HB2.out.size B0.out)
    have h2 := HT5.out.tu.below h1 h1.size (fun i hi => by rcases hi with rfl | rfl <;> omega)
    exact h2.trans (below_le h2.size hb8)
  have HZ8 : Hid (w4.heap.size ≤ w8'.heap.size ∧ sv < w4.heap.size ∧ b < w4.heap.size) := ⟨Nat.le_trans hz5 hb8.size, hsv4, by have := HL1.out.b; omega⟩
  clear ho8 hs8 hT8 HT5 HO7 HB7 HR7 HR5 hrun7 HZ7
  go_wp2_with fail
  with_reducible refine HD3.out.mono ?_
  rintro er w9 ⟨rfl, hR9⟩
  have hz8 : w4.heap.size ≤ w8'.heap.size ∧ sv < w4.heap.size ∧ b < w4.heap.size := HZ8.out
  have hA5 : ∀ ad, A5 = some ad → ¬ (ad.block = sv ∨ ad.block = b) := fun ad h => by have := hp5 ad h; omega
  have HR9 := Lib.hid hR9
  have HO9 := Lib.hid (runs_two hR9 HL1.out)
  clear hR9 HD3
  go_wp2_with fail
  with_reducible refine HO9.out.mono ?_
  rintro er w10 ⟨A10, c10, A0', c0', A1', c1', rfl, hK10, hT10⟩
  obtain ⟨g5, hg5, hg5l, hc5⟩ := (HK8.out.turned hT10 hA5).cell 0 _ rfl
  obtain ⟨ga, hga, hgal, hca⟩ := hK10.cell 0 _ rfl
  obtain ⟨gb, hgb, hgbl, hcb⟩ := hK10.cell 1 _ rfl
  rw [hga] at hgb
  injection hgb with hgb
  injection hgb with hgb
  subst hgb hg5 hga
  have d0 : w10.cell? ⟨g5, 0, none⟩ = some (.int .i64 7) := hc5 0 _ rfl
  have d1 : w10.cell? ⟨g5, 1, none⟩ = some (.int .i64 0) := hc5 1 _ rfl
  have d2 : w10.cell? ⟨ga, 1, none⟩ = some (.int .i64 11) := hca 1 _ rfl
  have d3 : w10.cell? ⟨ga, 6, none⟩ = some (.int .i64 7) := hcb 0 _ rfl
  have HBf : Hid (Below w.heap.size w w10) := hT10.below HBe.out HBe.out.size (fun i hi => by rcases hi with rfl | rfl <;> omega)
  clear hT10 hK10 hc5 hca hcb HK8 HBe HO9 HR9
  go_wp2_with fail
  go_ret
  exact ⟨rfl, HBf.out⟩
end Go.Proofs.YtkdlofgfkfhofaaGreatDoor

/-
  stavelaw25: ServerRuns, of whatever world.
-/
namespace Go.Proofs.YtkdlofgfkfhofaaGreatDoor
open Go.RowKit
theorem serverRuns_law (w : World) (hl : ErrLaid w) :
    Calls Tryz.prog 3 #[] w fun er w' => er = .returned (.bool true) ∧ Below w.heap.size w w' := serverRuns_any hl
end Go.Proofs.YtkdlofgfkfhofaaGreatDoor

/-
  stavelaw25: ServerSkips, the plain law.
-/
namespace Go.Proofs.YtkdlofgfkfhofaaGreatDoor
open Go.RowKit Go.Maps

def skA (j : Nat) : Ask := askL (10 + (j : Int))
theorem skA_right {j : Nat} (h : j ≤ 100) : rightA (skA j) = true := askL_right (by omega) (by omega)
def skF (k : Nat) : List UInt8 := ((List.range k).map (fun j => putA (skA j))).flatMap frU
theorem skF_succ (k : Nat) : skF (k + 1) = skF k ++ frU (putA (skA k)) := by
  unfold skF
  rw [List.range_succ, List.map_append, List.flatMap_append]
  simp
/-- what is sent -/
def skT (m k : Nat) : List UInt8 := frU (List.replicate m 0) ++ skF k
theorem skT_succ (m k : Nat) : skT m (k + 1) = skT m k ++ frA (skA k) := by
  unfold skT
  rw [skF_succ, List.append_assoc]
  rfl
theorem frU_len (X : List UInt8) : (frU X).length = 2 + X.length := by unfold frU; rw [List.length_append]; rfl
theorem skF_len : ∀ k : Nat, (skF k).length ≤ 608 * k
  | 0 => Nat.le_refl _
  | k + 1 => by
    have := skF_len k
    have := putA_len (skA k)
    rw [skF_succ, List.length_append, frU_len]
    omega
theorem skT_len (m k : Nat) : 2 + m ≤ (skT m k).length ∧ (skT m k).length ≤ 2 + m + 608 * k := by
  have := skF_len k
  unfold skT
  rw [List.length_append, frU_len, List.length_replicate]
  omega
/-- what is told of it -/
def skE (k : Nat) : List Ev := .big :: (List.range k).map (fun j => .frame (putA (skA j)))
theorem skE_len (k : Nat) : (skE k).length = 1 + k := by simp [skE, Nat.add_comm]
theorem skE_get {k j : Nat} (h : j < k) : (skE k)[1 + j]? = some (.frame (putA (skA j))) := by
  unfold skE
  rw [Nat.add_comm, List.getElem?_cons_succ, List.getElem?_map, List.getElem?_range h]
  rfl
theorem sk_all {m k : Nat} (h1 : 1024 < m) (h2 : m ≤ 60000) (hk : k ≤ 1000) : allM 5000 (skT m k) 0 = skE k := by
  unfold skT skE
  have hl : (List.replicate m (0 : UInt8)).length = m := List.length_replicate
  rw [all_big 4999 _ _ (by omega) (by omega)]
  have h := all_frs ((List.range k).map (fun j => putA (skA j))) [] (4999 - k) (fun X hX => by
    obtain ⟨j, _, rfl⟩ := List.mem_map.1 hX
    have := putA_len (skA j)
    omega)
  rw [List.append_nil, List.length_map, List.length_range, show 4999 - k + k = 4999 by omega, all_nil, List.append_nil] at h
  unfold skF
  rw [h, List.map_map]
  rfl
theorem sk_rd {k : Nat} (hk : k ≤ 100) : ∀ e ∈ skE k, Rd1 e := by
  intro e he
  rcases List.mem_cons.1 he with rfl | he
  · exact rdBig
  · obtain ⟨j, hj, rfl⟩ := List.mem_map.1 he
    have := List.mem_range.1 hj
    exact rd_ask (skA_right (by omega)) rfl
theorem sk_ev {j : Nat} (h : j ≤ 100) : evR (.frame (putA (skA j))) = (10 + (j : Int), 0) := by
  rw [ev_ask (skA_right h)]
  rfl
/-- of a part of it -/
theorem sk_part {m k : Nat} (h1 : 1024 < m) (h2 : m ≤ 2000) (hk : k ≤ 4) (q : Nat) : ∀ e ∈ allM 5000 ((skT m k).take q) 0, Rd1 e := by
  intro e he
  have hl := (skT_len m k).2
  obtain ⟨E', h⟩ := all_pre 5000 ((skT m k).take q) ((skT m k).drop q) 0 (by rw [← List.length_append, List.take_append_drop]; omega)
  rw [List.take_append_drop, sk_all h1 (by omega) (by omega)] at h
  exact sk_rd (k := k) (by omega) e (by rw [h]; exact List.mem_append_left _ he)
end Go.Proofs.YtkdlofgfkfhofaaGreatDoor

/-
  The walk of stavebook's Within.
-/
namespace Go.Proofs.YtkdlofgfkfhofaaGreatDoor
open Go.RowKit

/-- a number brought into lo .. hi -/
def within (n lo hi : Int) : Int := lo + n.emod (hi - lo + 1)
theorem within_in (n lo hi : Int) (h : lo ≤ hi) : lo ≤ within n lo hi ∧ within n lo hi ≤ hi := by
  unfold within
  have h1 := Int.emod_nonneg n (show hi - lo + 1 ≠ 0 by omega)
  have h2 := Int.emod_lt_of_pos n (show 0 < hi - lo + 1 by omega)
  change 0 ≤ n.emod (hi - lo + 1) at h1
  change n.emod (hi - lo + 1) < _ at h2
  omega
set_option maxRecDepth 100000 in
set_option maxHeartbeats 400000 in
theorem within_any (n lo hi : Int) (w : World) (h : lo ≤ hi) (hlo : -1000000 ≤ lo) (hhi : hi ≤ 200000000000000) (hn : -9223372036854775808 ≤ n) (hn' : n ≤ 9223372036854775807) :
    Calls Tryz.prog 12 #[.int .i64 n, .int .i64 lo, .int .i64 hi] w fun e w' => e = .returned (.int .i64 (within n lo hi)) ∧ w = w' := by
  have hm0 : 0 < hi - lo + 1 := by omega
  have ht1 : n.tmod (hi - lo + 1) < hi - lo + 1 := by
    by_cases hp : 0 ≤ n
    · rw [Int.tmod_eq_emod_of_nonneg hp]; exact Int.emod_lt_of_pos _ hm0
    · have h1 := Int.emod_nonneg (-n) (show hi - lo + 1 ≠ 0 by omega)
      rw [show n.tmod (hi - lo + 1) = -((-n).tmod (hi - lo + 1)) by rw [Int.neg_tmod]; omega, Int.tmod_eq_emod_of_nonneg (by omega)]
      omega
  have ht2 : -(hi - lo + 1) < n.tmod (hi - lo + 1) := by
    by_cases hp : 0 ≤ n
    · rw [Int.tmod_eq_emod_of_nonneg hp]; have := Int.emod_nonneg n (show hi - lo + 1 ≠ 0 by omega); omega
    · have h1 := Int.emod_lt_of_pos (-n) hm0
      rw [show n.tmod (hi - lo + 1) = -((-n).tmod (hi - lo + 1)) by rw [Int.neg_tmod]; omega, Int.tmod_eq_emod_of_nonneg (by omega)]
      omega
  have hneg : n.tmod (hi - lo + 1) < 0 → lo + (n.tmod (hi - lo + 1) + hi - lo + 1) = within n lo hi := by
    intro hl
    have e : n.emod (hi - lo + 1) = n.tmod (hi - lo + 1) + (hi - lo + 1) := by
      have h1 := Int.tmod_add_mul_tdiv n (hi - lo + 1)
      have : n = (n.tmod (hi - lo + 1) + (hi - lo + 1)) + (hi - lo + 1) * (n.tdiv (hi - lo + 1) - 1) := by
        rw [Int.mul_sub]; omega
      show n % (hi - lo + 1) = _
      conv => lhs; rw [this]
      rw [Int.add_mul_emod_self_left]
      exact Int.emod_eq_of_lt (by omega) (by omega)
    unfold within; rw [e]; omega
  have hpos : 0 ≤ n.tmod (hi - lo + 1) → lo + n.tmod (hi - lo + 1) = within n lo hi := by
    intro hl
    have e : n.emod (hi - lo + 1) = n.tmod (hi - lo + 1) := by
      have h1 := Int.tmod_add_mul_tdiv n (hi - lo + 1)
      show n % (hi - lo + 1) = _
      conv => lhs; rw [← h1]
      rw [Int.add_mul_emod_self_left]
      exact Int.emod_eq_of_lt (by omega) (by omega)
    unfold within; rw [e]
  have Hneg := Lib.hid hneg
  have Hpos := Lib.hid hpos
  clear hneg hpos
  by_cases hs : n.tmod (hi - lo + 1) < 0
  all_goals
    go_enter Tryz.func12, Tryz.ntmps12
    go_wp2
    go_ret
    first | exact ⟨ret_int (Hneg.out hs), rfl⟩ | exact ⟨ret_int (Hpos.out (by omega)), rfl⟩

end Go.Proofs.YtkdlofgfkfhofaaGreatDoor

/-
  A law's slice of numbers.
-/
namespace Go.Proofs.YtkdlofgfkfhofaaGreatDoor
open Go.ChangeShapes Go.WideShapes Go.ChangeAt Go.RowKit Go.Maps

/-- a slice of numbers reads as l -/
def RdI (w : World) (A : Option Addr) (n c : Nat) (l : List Int) : Prop := Rd w w.heap.size A n c (l.map (Value.int .i64)) ∧ ∀ z ∈ l, -9223372036854775808 ≤ z ∧ z ≤ 9223372036854775807
theorem RdI.ext {w w' : World} {A : Option Addr} {n c : Nat} {l : List Int} (h : RdI w A n c l) (hb : Below w.heap.size w w') : RdI w' A n c l := ⟨Rd.ext h.1 hb, h.2⟩
theorem cells_i : Tryz.prog.cellsOf 3 = 1 := by kernel_rfl
set_option maxRecDepth 100000 in
theorem Came.ints {H : Type} {enc : TypeId × Value → H} {W : World} {base : Nat} {v : Value} {d : DataW H} {p : List MemPlace} (h : Came enc W base 45 v d p) : ∃ A n c l, v = .slice A n c ∧ RdI W A n c l := by
  obtain ⟨A, n, c, rfl⟩ := okWide_slice Tryz.underlying45 h.1
  obtain ⟨fuel, hf⟩ := h.2
  rcases open_ints Tryz.underlying45 Tryz.underlying3 cells_i hf with ⟨hcs, _⟩ | ⟨x, l, c', zs, hcs, _, hl, hm, hz, _, hcell, hwz⟩
  · simp [Value.cells] at hcs
    obtain ⟨rfl, rfl, rfl⟩ := hcs
    exact ⟨none, 0, 0, [], rfl, Rd.nil W _, fun z hz => absurd hz List.not_mem_nil⟩
  · simp [Value.cells] at hcs
    obtain ⟨rfl, rfl, rfl⟩ := hcs
    have hz : zs.length = c := by simpa using hz
    refine ⟨_, _, _, zs.take n, rfl, ⟨by simp; omega, hl, by unfold maxLen at hm; exact hm, fun k u hu => ?_⟩, fun z hz' => wf_i64 (hwz z (List.mem_of_mem_take hz'))⟩
    have hk : k < n := by
      have := (List.getElem?_eq_some_iff.1 hu).1
      simp at this; omega
    have hc := hcell k (by omega)
    refine ⟨x, rfl, ?_, ?_⟩
    · have := cell_lt hc
      rwa [add_block] at this
    · have hkz : k < zs.length := by omega
      rw [hc, ← hu]
      simp only [List.getD_eq_getElem?_getD, Option.getD_some, List.getElem?_map, List.getElem?_take, if_pos hk, List.getElem?_eq_getElem hkz, Option.map_some]

theorem min_int (n : Nat) (k : Int) (hk : 0 ≤ k) : ∃ m : Nat, min (n : Int) k = (m : Int) ∧ m ≤ n ∧ (m : Int) ≤ k := by
  by_cases h : (n : Int) ≤ k
  · exact ⟨n, Int.min_eq_left h, Nat.le_refl _, h⟩
  · exact ⟨k.toNat, by rw [Int.min_eq_right (by omega)]; omega, by omega, by omega⟩
end Go.Proofs.YtkdlofgfkfhofaaGreatDoor

/-
  The rows that list errors' own variable beside the tables of utf8: what the row's condition says of its cell; a world that meets the condition.
-/
namespace Go.Proofs.YtkdlofgfkfhofaaGreatDoor
open Go.RowKit

/-- what the rows list -/
def L3 : List (String × DataW Unit) := Rows.serverRunsRow.laid
/-- .. without the handle -/
def L2 : List (String × DataW Unit) := L3.filter fun x => x.2.handleName?.isNone
theorem rtype_is : (Tryz.prog.cutTypes.find? (·.1 == "internal/reflectlite.rtype")).map (·.2) = some 245 := by kernel_rfl
theorem error_row : ((List.range Tryz.prog.types.size).filter fun t => Tryz.prog.rowNamed t [101, 114, 114, 111, 114]) = [52] := by kernel_rfl
theorem errType_is : Tryz.prog.globalNamed "errors.errorType" = some 0 := by kernel_rfl
theorem handle_error : typeHandle Tryz.prog 52 = .pointer (some ⟨4, 52, none⟩) := by kernel_rfl
set_option maxRecDepth 100000 in
theorem errLaid_of {W : World} (h : laidMetH Tryz.prog L3 W) : ErrLaid W := by
  have h' : laidMet Tryz.prog (L3.filter fun x => x.2.handleName?.isNone) W ∧ handlesMet Tryz.prog [("errors.errorType", Rows.laid_errors_errorType)] W := h
  obtain ⟨name, u, ty, e1, e2, e3, e4, e5⟩ := h'.2 _ (List.mem_singleton.2 rfl)
  have en : name = [101, 114, 114, 111, 114] := (Option.some.inj e1).symm
  subst en
  obtain rfl := Option.some.inj (rtype_is.symm.trans e2)
  have hm : ty ∈ (List.range Tryz.prog.types.size).filter fun t => Tryz.prog.rowNamed t [101, 114, 114, 111, 114] := List.mem_filter.2 ⟨List.mem_range.2 e3, e4⟩
  rw [error_row] at hm
  obtain rfl := List.mem_singleton.1 hm
  rw [handle_error] at e5
  have := World.var?_cell errType_is e5 0
  simpa [ErrLaid] using this

/-- the settled world, errors' variable laid -/
noncomputable def errW (os : Os) : World :=
  let w0 := World.holding Tryz.prog os ⟨#[], #[], []⟩
  { w0 with heap := w0.heap.modify 0 fun
      | .cells _ t frozen => .cells #[.iface 245 (.agg #[.pointer (some ⟨4, 52, none⟩)])] t frozen
      | o => o }
noncomputable def witW (os : Os) : World := (errW os).layVars Tryz.prog L2
theorem witW_os (os : Os) : (witW os).os = os := World.layVars_os _ _ _
theorem laidMet_over {P : Program} {w0 : World} {laid : List (String × DataW Unit)} (args : Array Value) (hf : w0.layFits P laid [] = true) (hi : w0.layIfaces P laid (w0.layVars P laid) = true) :
    laidMet P laid ((w0.layVars P laid).forCall (fun _ _ => 0) ⟨#[], args, []⟩).memory := by
  have e1 : (laid.filter fun x => (laid.map (·.1)).contains x.1) = laid := List.filter_eq_self.2 fun x hx => List.contains_iff_mem.2 (List.mem_map.2 ⟨x, hx, rfl⟩)
  have e2 : (laid.filter fun x => !(laid.map (·.1)).contains x.1) = [] := List.filter_eq_nil_iff.2 fun x hx => by rw [List.contains_iff_mem.2 (List.mem_map.2 ⟨x, hx, rfl⟩)]; simp
  have h : laidMet P laid (w0.layVars P laid) := laidMet_layVars (w0 := w0) (laid.map (·.1)) [] (by rw [e1]) (by rw [e1]; exact hf) (by rw [e1]; exact hi) (by rw [e2]; exact LaidIn.none)
  exact h.of_heap (by simp [World.memory, World.forCall, Input.heap])
theorem L2_is : (L3.filter fun x => x.2.handleName?.isNone) = L2 := by kernel_rfl
set_option maxRecDepth 100000 in
theorem witW_met (os : Os) (args : Array Value) : laidMetH Tryz.prog L3 ((witW os).forCall (fun _ _ => 0) ⟨#[], args, []⟩).memory :=
  laidMetH_of_parts (by rw [L2_is]; exact laidMet_over args (by kernel_rfl) (by kernel_rfl)) (by kernel_rfl)
end Go.Proofs.YtkdlofgfkfhofaaGreatDoor
