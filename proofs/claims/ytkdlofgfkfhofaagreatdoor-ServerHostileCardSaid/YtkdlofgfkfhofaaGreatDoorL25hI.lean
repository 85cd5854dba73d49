import Derived.Test.YtkdlofgfkfhofaaGreatDoorL25hM
import Derived.Test.YtkdlofgfkfhofaaGreatDoorSvW
namespace Go.Proofs.YtkdlofgfkfhofaaGreatDoor
open Go.RowKit Go.Maps

abbrev cf7h : CfgM := ⟨(7 : Nat), (1 : Nat), (2 : Nat), (4 : Nat), (1 : Nat)⟩
structure Hos (w0 w : World) (sv b r t g s tb gr : Nat) (me : Value) (X : List UInt8) (es : List Ev) : Prop where
  at_ : ∃ ws v l p last, SvAt w sv b r t g s tb gr me ws last cf7h (upC zCs 0 v) ∧ CnAt w v sv b l p (es.flatMap evB) ∧ Fed (frU X) [.frame X] l p ∧ 0 ≤ last ∧ last ≤ 1
  tu : Turned (fun j => j = sv ∨ j = b) w0 w
theorem Hos.ext {w0 w w' : World} {sv b r t g s tb gr : Nat} {me : Value} {X : List UInt8} {es : List Ev} (h : Hos w0 w sv b r t g s tb gr me X es) (hb : Below w.heap.size w w') : Hos w0 w' sv b r t g s tb gr me X es := by
  obtain ⟨⟨ws, v, l, p, last, h1, h2, h3⟩, h4⟩ := h
  exact ⟨⟨ws, v, l, p, last, h1.ext hb, h2.turned (Turned.of_below (P := fun _ => False) hb) (fun _ h => h.elim), h3⟩, h4.then_below hb⟩
set_option maxHeartbeats 1000000 in
theorem hos_do1r {w : World} {sv b r t g s tb gr : Nat} {me : Value} (hS : SvAt w sv b r t g s tb gr me (.slice none 0 0) 0 cf7h zCs) (hl : SvL sv b t g s tb) {A : Option Addr} {nb c : Nat} {X : List UInt8} (hX : X.length ≤ 60) (hrd : Rd1 (.frame X)) (hb : RdB w A nb c (frU X)) :
    Calls Tryz.prog 10 #[.pointer (some ⟨sv, 0, none⟩), .agg (stepC 1 0 0 0 0 0 A nb c)] w fun e w' => e = .returned (.bool true) ∧ Hos w w' sv b r t g s tb gr me X [.frame X] := by
  have hnb : 2 + X.length = nb := by rw [← frU_len]; exact hb.len
  have h0 : allM 5000 ([] ++ frU X) 0 = [.frame X] := by
    have h := frame_all 5000 X [] (by omega) (by rw [frU_len]; simp; omega)
    rw [List.append_nil, all_nil, List.append_nil] at h
    exact h
  have h := svDo_fed (i := 0) hS hl (by omega) (zC_at w sv b) fed_nil hb 5000 (by simp; omega) (by simp; omega) (by omega) (by simp; omega) (fun e he => by
    rw [h0] at he
    rw [List.mem_singleton] at he
    subst he
    exact hrd)
  rw [show ((0 : Nat) : Int) = 0 from rfl, h0] at h
  refine h.mono ?_
  rintro e w' ⟨rfl, E', l', p', v', last', a0, a1, a2, a3, a4, a5, a6, a7⟩
  rw [List.nil_append] at a0
  subst a0
  exact ⟨rfl, ⟨_, v', l', p', last', a4, a2, a1, a5, by simp at a6; omega⟩, a7⟩
set_option maxHeartbeats 1000000 in
theorem hos_one {w0 w : World} {sv b r t g s tb gr : Nat} {me : Value} {X : List UInt8} {es : List Ev} (hR : Hos w0 w sv b r t g s tb gr me X es) (hl : SvL sv b t g s tb) (m : Nat) (hm : es.length = m) (hm2 : m ≤ 10) :
    Calls Tryz.prog 11 #[.pointer (some ⟨sv, 0, none⟩), .int .i64 0] w fun e w' => ∃ A c Ls, e = .returned (.slice A m c) ∧ RpL Ls es ∧ RdK w' 6 A m c (Ls.map RpR.cells) ∧ (∀ ad, A = some ad → w.heap.size ≤ ad.block) ∧ Hos w0 w' sv b r t g s tb gr me X [] ∧ Turned (fun j => j = sv) w w' := by
  obtain ⟨⟨ws, v, l, p, last, hS, hC, hF, h0, h1⟩, hT⟩ := hR
  have h := one_any (i := 0) hS hl (by omega) (by rw [upC_same]; exact hC) (by omega)
  rw [hm] at h
  refine h.mono ?_
  rintro e w' ⟨A, c, L, v', rfl, a1, a2, a3, a4, a5, a6, a7⟩
  rw [upC_up] at a4
  exact ⟨A, c, L, rfl, a1, a2, a7, ⟨⟨ws, v', l, p, last, a4, a5, hF, h0, h1⟩, hT.trans a6 fun _ _ h => .inl h⟩, a6⟩
structure Hot (w0 w : World) (sv b r t g s tb gr : Nat) (me : Value) (es : List Ev) : Prop where
  at_ : ∃ ws v l p last, SvAt w sv b r t g s tb gr me ws last cf7h (upC zCs 0 v) ∧ CnAt w v sv b l p (es.flatMap evB) ∧ 0 ≤ last ∧ last ≤ 10
  tu : Turned (fun j => j = sv ∨ j = b) w0 w
theorem Hot.ext {w0 w w' : World} {sv b r t g s tb gr : Nat} {me : Value} {es : List Ev} (h : Hot w0 w sv b r t g s tb gr me es) (hb : Below w.heap.size w w') : Hot w0 w' sv b r t g s tb gr me es := by
  obtain ⟨⟨ws, v, l, p, last, h1, h2, h3⟩, h4⟩ := h
  exact ⟨⟨ws, v, l, p, last, h1.ext hb, h2.turned (Turned.of_below (P := fun _ => False) hb) (fun _ h => h.elim), h3⟩, h4.then_below hb⟩
set_option maxHeartbeats 1000000 in
theorem hos_do2 {w0 w : World} {sv b r t g s tb gr : Nat} {me : Value} {X : List UInt8} (hR : Hos w0 w sv b r t g s tb gr me X []) (hl : SvL sv b t g s tb) (hX : X.length ≤ 60) {m : Nat} (h1 : 1024 < m) (h2 : m ≤ 2000) {u : UInt8} {A : Option Addr} {nb c : Nat} (hb : RdB w A nb c (hoT m u)) :
    Calls Tryz.prog 10 #[.pointer (some ⟨sv, 0, none⟩), .agg (stepC 1 0 0 0 0 0 A nb c)] w fun e w' => e = .returned (.bool true) ∧ Hot w0 w' sv b r t g s tb gr me [.big, .frame (hoX u)] := by
  obtain ⟨⟨ws, v, l, p, last, hS, hC, hF, hl0, hl1⟩, hT⟩ := hR
  have hnb : m + 10 = nb := by rw [← hoT_len m u]; exact hb.len
  have hXl := frU_len X
  obtain ⟨hF1, hF2, hF3⟩ := hF
  rw [List.length_singleton] at hF2
  have he0 : allM 5000 (l ++ hoT m u) p = [.big, .frame (hoX u)] := by
    have q1 := hF1 5000 (hoT m u) (by rw [hoT_len]; omega)
    rw [ho_all u X hX h1 h2] at q1
    exact (List.append_cancel_left q1).symm
  have h := svDo_all (i := 0) hS hl (by omega) (by rw [upC_same]; exact hC) hb (by simp; omega) (by omega) hl0 (by omega) 5000 (by omega) (fun e he => by
    rw [he0] at he
    simp only [List.mem_cons, List.not_mem_nil, or_false] at he
    rcases he with rfl | rfl
    · exact rdBig
    · exact hoX_rd u)
  rw [show ((0 : Nat) : Int) = 0 from rfl, he0] at h
  refine h.mono ?_
  rintro e w' ⟨rfl, l', p', v', last', a0, a1, a2, a3, a4, a5, a6, a7, a8⟩
  rw [upC_up] at a5
  exact ⟨rfl, ⟨ws, v', l', p', last', a5, a0, a6, by simp at a7; omega⟩, hT.trans a8 fun _ _ h => h⟩
set_option maxHeartbeats 1000000 in
theorem hot_one {w0 w : World} {sv b r t g s tb gr : Nat} {me : Value} {es : List Ev} (hR : Hot w0 w sv b r t g s tb gr me es) (hl : SvL sv b t g s tb) (m : Nat) (hm : es.length = m) (hm2 : m ≤ 10) :
    Calls Tryz.prog 11 #[.pointer (some ⟨sv, 0, none⟩), .int .i64 0] w fun e w' => ∃ A c Ls, e = .returned (.slice A m c) ∧ RpL Ls es ∧ RdK w' 6 A m c (Ls.map RpR.cells) ∧ (∀ ad, A = some ad → w.heap.size ≤ ad.block) ∧ Hot w0 w' sv b r t g s tb gr me [] ∧ Turned (fun j => j = sv) w w' := by
  obtain ⟨⟨ws, v, l, p, last, hS, hC, h0, h1⟩, hT⟩ := hR
  have h := one_any (i := 0) hS hl (by omega) (by rw [upC_same]; exact hC) (by omega)
  rw [hm] at h
  refine h.mono ?_
  rintro e w' ⟨A, c, L, v', rfl, a1, a2, a3, a4, a5, a6, a7⟩
  rw [upC_up] at a4
  exact ⟨A, c, L, rfl, a1, a2, a7, ⟨⟨ws, v', l, p, last, a4, a5, h0, h1⟩, hT.trans a6 fun _ _ h => .inl h⟩, a6⟩
structure Hou (w0 w : World) (sv b r t g s tb gr : Nat) (me : Value) (es : List Ev) : Prop where
  at_ : ∃ ws cs l p last, SvAt w sv b r t g s tb gr me ws last cf7h cs ∧ CnAt w (cs 1) sv b l p (es.flatMap evB) ∧ 0 ≤ last ∧ last ≤ 20
  tu : Turned (fun j => j = sv ∨ j = b) w0 w
theorem ho6_rd : Rd1 (.frame (putA (askL 6))) := rd_ask (askL_right (by omega) (by omega)) rfl
theorem ho6_ev : evR (.frame (putA (askL 6))) = (6, 0) := by
  rw [ev_ask (askL_right (by omega) (by omega))]
  rfl
set_option maxHeartbeats 1000000 in
theorem hot_do {w0 w : World} {sv b r t g s tb gr : Nat} {me : Value} {es : List Ev} (hR : Hot w0 w sv b r t g s tb gr me es) (hl : SvL sv b t g s tb) {A : Option Addr} {nb c : Nat} (hb : RdB w A nb c (frA (askL 6))) :
    Calls Tryz.prog 10 #[.pointer (some ⟨sv, 0, none⟩), .agg (stepC 1 1 0 0 0 0 A nb c)] w fun e w' => e = .returned (.bool true) ∧ Hou w0 w' sv b r t g s tb gr me [.frame (putA (askL 6))] := by
  obtain ⟨⟨ws, v, l, p, last, hS, hC, hl0, hl1⟩, hT⟩ := hR
  have hpl := putA_len (askL 6)
  have hnb : 2 + (putA (askL 6)).length = nb := by rw [← frU_len]; exact hb.len
  have h0 : allM 5000 ([] ++ frA (askL 6)) 0 = [.frame (putA (askL 6))] := by
    have h := frame_all 5000 (putA (askL 6)) [] (by omega) (by rw [frU_len]; simp; omega)
    rw [List.append_nil, all_nil, List.append_nil] at h
    exact h
  have h := svDo_all (i := 1) (es := []) hS hl (by omega) (l := []) (p := 0) (zC_at w sv b) hb (by simp; omega) (by omega) hl0 (by simp; omega) 5000 (by simp; omega) (fun e he => by
    rw [h0] at he
    rw [List.mem_singleton] at he
    subst he
    exact ho6_rd)
  rw [show ((1 : Nat) : Int) = 1 from rfl, h0] at h
  refine h.mono ?_
  rintro e w' ⟨rfl, l', p', v', last', a0, a1, a2, a3, a4, a5, a6, a7, a8⟩
  exact ⟨rfl, ⟨ws, _, l', p', last', a5, by rw [upC_same]; exact a0, a6, by simp at a7; omega⟩, hT.trans a8 fun _ _ h => h⟩
set_option maxHeartbeats 1000000 in
theorem hou_one {w0 w : World} {sv b r t g s tb gr : Nat} {me : Value} {es : List Ev} (hR : Hou w0 w sv b r t g s tb gr me es) (hl : SvL sv b t g s tb) (m : Nat) (hm : es.length = m) (hm2 : m ≤ 10) :
    Calls Tryz.prog 11 #[.pointer (some ⟨sv, 0, none⟩), .int .i64 1] w fun e w' => ∃ A c Ls, e = .returned (.slice A m c) ∧ RpL Ls es ∧ RdK w' 6 A m c (Ls.map RpR.cells) ∧ (∀ ad, A = some ad → w.heap.size ≤ ad.block) ∧ Turned (fun j => j = sv ∨ j = b) w0 w' := by
  obtain ⟨⟨ws, cs, l, p, last, hS, hC, h0, h1⟩, hT⟩ := hR
  have h := one_any (i := 1) hS hl (by omega) hC (by omega)
  rw [hm] at h
  refine h.mono ?_
  rintro e w' ⟨A, c, L, v', rfl, a1, a2, a3, a4, a5, a6, a7⟩
  exact ⟨A, c, L, rfl, a1, a2, a7, hT.trans a6 fun _ _ h => .inl h⟩
theorem hos_do1 {w : World} {sv b r t g s tb gr : Nat} {me : Value} (hS : SvAt w sv b r t g s tb gr me (.slice none 0 0) 0 cf7h zCs) (hl : SvL sv b t g s tb) {o : Nat → Option Nat} {W : Nat → Nat → List UInt8} (hSt : StoAt w o r 2 6 W) (hob : o b = none) (hos : o sv = none) {A : Option Addr} {nb c : Nat} {X : List UInt8} (hX : X.length ≤ 60) (hb : RdB w A nb c (frU X)) :
    Calls Tryz.prog 10 #[.pointer (some ⟨sv, 0, none⟩), .agg (stepC 1 0 0 0 0 0 A nb c)] w fun e w' => e = .returned (.bool true) ∧ ∃ es, es.length ≤ 1 ∧ ((∃ co ke, getA X = .error (co, ke)) → es = [.frame X]) ∧ Hos w w' sv b r t g s tb gr me X es := by
  by_cases hrd : Rd1 (.frame X)
  · refine (hos_do1r hS hl hX hrd hb).mono ?_
    rintro e w' ⟨rfl, h⟩
    exact ⟨rfl, _, Nat.le_refl _, fun _ => rfl, h⟩
  · have hx : ∃ a, getA X = .ok a ∧ writK a.kind = true := by
      cases hg : getA X with
      | error k =>
        refine absurd (fun Y a h1 h2 => ?_) hrd
        injection h1 with h1
        subst h1
        rw [hg] at h2
        cases h2
      | ok a =>
        refine ⟨a, rfl, ?_⟩
        cases hw : writK a.kind with
        | true => rfl
        | false =>
          refine absurd (fun Y a' h1 h2 => ?_) hrd
          injection h1 with h1
          subst h1
          rw [hg] at h2
          injection h2 with h2
          subst h2
          exact hw
    obtain ⟨a, hg, hw⟩ := hx
    have h := svDo_w0 (i := 0) hS hl hSt (at_one (by omega) (by omega) (by omega) (by omega) (by omega) (by omega)) hob hos (by omega) (zC_at w sv b) rfl hb (by omega) (by simp) (by omega) (by omega) hg hw
    refine h.mono ?_
    rintro e w' ⟨rfl, v, ws, h1, h2, h3⟩
    refine ⟨rfl, [], Nat.zero_le _, fun ⟨co, ke, q⟩ => ?_, ⟨⟨ws, v, [], 0, 1, h2, h1, fed_frame X (by omega), by omega, by omega⟩, h3⟩⟩
    rw [hg] at q
    cases q
end Go.Proofs.YtkdlofgfkfhofaaGreatDoor
