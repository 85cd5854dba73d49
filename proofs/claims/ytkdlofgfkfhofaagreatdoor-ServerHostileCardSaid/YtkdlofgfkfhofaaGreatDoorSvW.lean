import Derived.Test.YtkdlofgfkfhofaaGreatDoorP41
import Derived.Test.YtkdlofgfkfhofaaGreatDoorDBrW
namespace Go.Proofs.YtkdlofgfkfhofaaGreatDoor
open Go.RowKit Go.Maps

theorem step_none : stepM [] 0 = none := by
  unfold stepM passM
  rfl
theorem step_fr0 (X : List UInt8) (h : X.length ≤ 1024) : stepM (frU X) 0 = some (.frame X, [], 0) := by
  have h1 := step_fr X [] h
  rwa [List.append_nil] at h1
theorem svBody_fr {w : World} {sv b i : Nat} {cs : Nat → CV} (hS : Bk w sv 81 (svA b cs)) (hi : i < 4) {X : List UInt8} (hX : X.length ≤ 1024) {out : List UInt8} (hC : CnAt w (cs i) sv b (frU X) 0 out) (hl : out.length ≤ 700000) (hsb : b < sv) :
    Calls Tryz.prog 62 #[.pointer (some ⟨sv, 1 + 4 * i, none⟩)] w fun e w' => ∃ A n c v, e = .returned (.tuple #[.slice A n c, .bool true]) ∧ RdB w' A n c X ∧ (∀ ad, A = some ad → ad.block ≠ sv ∧ ad.block ≠ b) ∧ v.aw = (cs i).aw ∧ SvW w w' sv b (upC cs i v) ∧ CnAt w' v sv b [] 0 out := by
  have hfl : (frU X).length = 2 + X.length := by unfold frU; rw [List.length_append]; rfl
  refine (svBody_any hS hi hC (by omega) (by omega) hsb).mono ?_
  rintro e w' ⟨E, l2, p2, v, h1, h2, h3, h4, h5⟩
  have hst := step_fr0 X hX
  rcases h1.cases with ⟨rfl, rfl, rfl⟩ | ⟨e', l1, p1, E', q1, q2, _⟩
  · rw [List.flatMap_nil, List.append_nil] at h5
    rcases h5 with ⟨q, _⟩ | ⟨x, l3, p3, A, n, c, q1, rfl, q3, q4, q5⟩
    · rw [hst] at q
      cases q
    · rw [hst] at q1
      injection q1 with q1
      injection q1 with q1 q2
      injection q1 with q1
      injection q2 with q2 q6
      subst q1 q2 q6
      exact ⟨A, n, c, v, rfl, q3, q4, h3, h4, q5⟩
  · rw [hst] at q1
    injection q1 with q1
    injection q1 with q1 _
    have := h2 e' (by rw [q2]; exact List.mem_cons_self)
    rw [← q1] at this
    cases this
theorem svBody_no {w : World} {sv b i : Nat} {cs : Nat → CV} (hS : Bk w sv 81 (svA b cs)) (hi : i < 4) {out : List UInt8} (hC : CnAt w (cs i) sv b [] 0 out) (hl : out.length ≤ 700000) (hsb : b < sv) :
    Calls Tryz.prog 62 #[.pointer (some ⟨sv, 1 + 4 * i, none⟩)] w fun e w' => e = .returned (.tuple #[.slice none 0 0, .bool false]) ∧ ∃ v, v.aw = (cs i).aw ∧ SvW w w' sv b (upC cs i v) ∧ CnAt w' v sv b [] 0 out := by
  refine (svBody_any hS hi hC (by simp; omega) (by omega) hsb).mono ?_
  rintro e w' ⟨E, l2, p2, v, h1, h2, h3, h4, h5⟩
  rcases h1.cases with ⟨rfl, rfl, rfl⟩ | ⟨e', l1, p1, E', q1, q2, _⟩
  · rw [List.flatMap_nil, List.append_nil] at h5
    rcases h5 with ⟨_, rfl, q3⟩ | ⟨x, l3, p3, A, n, c, q1, _⟩
    · exact ⟨rfl, v, h3, h4, q3⟩
    · rw [step_none] at q1
      cases q1
  · rw [step_none] at q1
    cases q1
structure Wq0 (w wr : World) (sv b r t g s tb gr : Nat) (me : Value) (last : Int) (cf : CfgM) (cs : Nat → CV) (i : Nat) (X : List UInt8) (out : List UInt8) (x : Value) : Prop where
  rd : ∃ A n c, x = .slice A n c ∧ RdB wr A n c X
  at_ : ∃ v, v.aw = (cs i).aw ∧ SvAt wr sv b r t g s tb gr me (.slice none 0 0) last cf (upC cs i v) ∧ CnAt wr v sv b [] 0 out
  tu : Turned (fun j => j = sv ∨ j = b) w wr
structure Wq1 (w wr : World) (sv b r t g s tb gr : Nat) (me : Value) (last : Int) (cf : CfgM) (cs : Nat → CV) (i : Nat) (out : List UInt8) : Prop where
  at_ : ∃ v ws, SvAt wr sv b r t g s tb gr me ws (last + 1) cf (upC cs i v) ∧ CnAt wr v sv b [] 0 out
  tu : Turned (fun j => j = sv ∨ j = b) w wr
theorem serve_row2 {wa w6 X : World} {sv b r t g s tb gr : Nat} {me ws ws' : Value} {last last' : Int} {cf : CfgM} {cs : Nat → CV} {v : CV} (hS : SvAt wa sv b r t g s tb gr me ws last cf cs) (hl : SvL sv b t g s tb) (hb : BrkAt w6 b r t g s tb gr me ws' last' cf) (hT : Turned (fun j => j = b) wa w6) (hX : Below w6.heap.size w6 X) {G : Nat} (hG : wa.heap.size ≤ G) {l : List UInt8} {p : Nat} {out : List UInt8} (hC : CnAt wa v sv b l p out) (co er : Int) :
    SvAt (X.setRow G (rpC co er 0 0)) sv b r t g s tb gr me ws' last' cf cs ∧ CnAt (X.setRow G (rpC co er 0 0)) v sv b l p out ∧ Turned (fun j => j = b) wa (X.setRow G (rpC co er 0 0)) := by
  have hg : X.grownBy (X.setRow G (rpC co er 0 0)) (some G) := grown_row _ _ _
  have htX : Turned (fun j => j = b) wa X := hT.then_below hX
  have htY : Turned (fun j => j = b) wa (X.setRow G (rpC co er 0 0)) := htX.then_grown hg (fun k e => .inr (by rw [← Option.some.inj e]; exact hG))
  have htq : Turned (fun j => j = G) X (X.setRow G (rpC co er 0 0)) := Turned.of_grown hg (fun _ e => (Option.some.inj e).symm)
  have hbX := hb.ext hX
  have h1 := hS.bk.lt
  have h2 := hl.b
  have h3 := hl.b2
  exact ⟨⟨hS.bk.turned htY (by omega), ⟨hbX.bk.turned htq (by omega), hbX.tp.turned htq (by omega), hbX.vo.turned htq (by omega), hbX.st.turned htq (by omega) (by omega)⟩, (turned_cell htY (cell_lt hS.el) (el_other hS.el hS.br.bk rfl)).trans hS.el⟩, hC.turned htY (fun _ h => .inr h), htY⟩
theorem info_i64 : (Tryz.prog.info? 3).map (fun i => (i.zero, i.size, i.bytes)) = some (some (.int .i64 0), 1, 8) := by kernel_rfl
theorem cell_one1 (w : World) (t : TypeId) (x : Value) : ∀ j u, [x][j]? = some u → (w.alloc (.cells #[x] t)).cell? ((⟨w.heap.size, 0, none⟩ : Addr).add j) = some u := fun j u hu => by
  cases j with
  | succ j => simp at hu
  | zero =>
    simp at hu
    subst hu
    rw [show (⟨w.heap.size, 0, none⟩ : Addr).add 0 = ⟨w.heap.size, 0, none⟩ by simp [Addr.add]]
    exact (Bk.made w t #[x]).cell 0
theorem one_i64 (z : Int) : ∀ u ∈ [Value.int .i64 z], u.oneCell' = true := by
  intro u hu
  rw [List.mem_singleton.1 hu]
  rfl
attribute [local go_sem ↓] ldRp_eq stRp_eq ldA_eq
attribute [local go_sem] isRp_drew isRp_alloc stRp_if
set_option maxRecDepth 100000 in
set_option maxHeartbeats 4000000 in
theorem svBytes_w0 {w : World} {sv b r t g s tb gr : Nat} {me : Value} {last : Int} {cf : CfgM} {cs : Nat → CV} (hS : SvAt w sv b r t g s tb gr me (.slice none 0 0) last cf cs) (hl : SvL sv b t g s tb) {o : Nat → Option Nat} {n' S : Nat} {W : Nat → Nat → List UInt8} (hSt : StoAt w o r n' S W) (hcf : cf.At n' S) (hob : o b = none) (hos : o sv = none) {i : Nat} (hi : i < 4) {out : List UInt8} (hC : CnAt w (cs i) sv b [] 0 out) (haw : (cs i).aw = .slice none 0 0) {Ab : Option Addr} {nb cb : Nat} {X : List UInt8} (hb : RdB w Ab nb cb (frU X)) (hX : X.length ≤ 1024) (ho : out.length ≤ 700000) (hl0 : 0 ≤ last) (hl1 : last ≤ 900000) {a : Ask} (hg : getA X = .ok a) (hwk : writK a.kind = true) :
    Calls Tryz.prog 28 #[.pointer (some ⟨sv, 0, none⟩), .pointer (some ⟨sv, 1 + 4 * i, none⟩), .slice Ab nb cb] w fun e w' => e = .returned (.tuple #[]) ∧ ∃ v ws, CnAt w' v sv b [] 0 out ∧ SvAt w' sv b r t g s tb gr me ws (last + 1) cf (upC cs i v) ∧ Turned (fun j => j = sv ∨ j = b) w w' := by
  have HS := Lib.hid hS
  have HC := Lib.hid hC
  have HBs := Lib.hid hb
  have HLy := Lib.hid hl
  obtain ⟨A, n, cp, e1, e2, e3⟩ := hC.inp
  have c0 : w.cell? ⟨sv, 1 + 4 * i, none⟩ = some (.slice A n cp) := by rw [hS.bk.cell, (svA_get cs hi).1, e1]
  have hln := e2.len
  have HE1 := Lib.hid e1
  have HE2 := Lib.hid e2
  clear hS hC hb hl e1 e2
  have HSto : Hid (∀ v, Turned (fun j => j = sv ∨ j = b) w v → StoAt v o r n' S W) := fun v hv => hSt.turned hv (fun j _ hj e => hj (e.elim (fun h => by rw [h]; exact hos) (fun h => by rw [h]; exact hob)))
  have HCf := Lib.hid hcf
  have HG := Lib.hid hg
  have HWk := Lib.hid hwk
  have HRa := Lib.hid (getA_inv hg).1
  obtain ⟨ii, hi0, hz0, hs0, hy0⟩ := info_parts info_i64
  have HI := Lib.hid hi0
  have HZ := Lib.hid hz0
  have HSz := Lib.hid hs0
  have HY := Lib.hid hy0
  clear hSt hcf hg hwk hi0 hz0 hs0 hy0
  go_enter Tryz.func28, Tryz.ntmps28
  go_wp2_with fail
  have hb1 := below_new w (.cells #[.slice A n cp, .slice Ab nb cb] 26)
  have htot : tot [⟨A, n, cp, []⟩, ⟨Ab, nb, cb, frU X⟩] = [] ++ frU X := by simp [tot]
  have hlen : ([] ++ frU X).length = n + nb := by rw [List.length_append, hln, HBs.out.len]
  have hC := concat_any [⟨A, n, cp, []⟩, ⟨Ab, nb, cb, frU X⟩] w.heap.size 2 rfl (by omega) (w.alloc (.cells #[.slice A n cp, .slice Ab nb cb] 26)) (Bk.made w _ _) (fun s hs => by
    simp only [List.mem_cons, List.not_mem_nil, or_false] at hs
    rcases hs with rfl | rfl
    · exact RdB.ext HE2.out hb1
    · exact RdB.ext HBs.out hb1) (by rw [htot, List.nil_append]; have h2 : (frU X).length = 2 + X.length := (by unfold frU; rw [List.length_append]; rfl); omega)
  rw [htot, hlen] at hC
  have HCc := Lib.hid hC
  have HS1 := Lib.hid (HS.out.ext hb1)
  have HC1 := Lib.hid (HC.out.turned (Turned.of_below (P := fun _ => False) hb1) (fun _ h => h.elim))
  have HT1 : Hid (Turned (fun j => j = sv ∨ j = b) w (w.alloc (.cells #[.slice A n cp, .slice Ab nb cb] 26))) := Turned.of_below hb1
  have HLen := Lib.hid hlen
  clear hb1 htot hlen hC c0
  generalize w.alloc (.cells #[.slice A n cp, .slice Ab nb cb] 26) = w1 at HCc HS1 HC1 HT1 ⊢
  with_reducible refine HCc.out.mono ?_
  rintro er w2 ⟨A2, c2, rfl, ho2, hb2⟩
  have HS2 := Lib.hid (HS1.out.ext hb2)
  have HC2 := Lib.hid (HC1.out.turned (Turned.of_below (P := fun _ => False) hb2) (fun _ h => h.elim))
  have HT2 := Lib.hid (HT1.out.then_below hb2)
  have HO2 := Lib.hid ho2
  have hsl := HS1.out.bk.lt
  have c0 : w2.cell? ⟨sv, 1 + 4 * i, none⟩ = some (.slice A n cp) := by rw [HS2.out.bk.cell, (svA_get cs hi).1, HE1.out]
  have z0 := HS2.out.bk.thaw (1 + 4 * i)
  have hpv : ∀ ad, A2 = some ad → ad.block ≠ sv ∧ ad.block ≠ b := by
    intro ad e
    have hbv := HLy.out.b
    rcases HO2.out.open_ with ⟨h1, _⟩ | ⟨g, cap, h1, h2, _⟩
    · injection h1 with h3 _ _
      rw [h3] at e
      cases e
    · injection h1 with h3 _ _
      rw [h3] at e
      injection e with e
      subst e
      simp only
      omega
  have HW : Hid (∀ Y, Y = w2.setCell ⟨sv, 1 + 4 * i, none⟩ (.slice A2 (n + nb) c2) → SvAt Y sv b r t g s tb gr me (.slice none 0 0) last cf (upC cs i ⟨.slice A2 (n + nb) c2, (cs i).past, (cs i).out, (cs i).aw⟩) ∧ CnAt Y ⟨.slice A2 (n + nb) c2, (cs i).past, (cs i).out, (cs i).aw⟩ sv b ([] ++ frU X) 0 out ∧ Turned (fun j => j = sv ∨ j = b) w Y) := by
    rintro Y rfl
    have h := (⟨HS2.out.bk, Turned.refl _ _⟩ : SvW w2 w2 sv b cs).put (svA_set cs hi (.slice A2 (n + nb) c2)).1
    have hC3 := HC2.out.turned h.tu (fun _ h => .inl h)
    exact ⟨HS2.out.step HLy.out h, ⟨⟨_, _, _, rfl, RdB.turned HO2.out.rd h.tu (fun a e q => (hpv a e).1 q), hpv⟩, hC3.past, hC3.out⟩, HT2.out.trans h.tu (fun _ _ h => .inl h)⟩
  clear hb2 ho2 HCc hsl hpv HS1 HC1 HT1 e3
  go_wp2_with fail
  have hXw := HW.out _ rfl
  generalize w2.setCell ⟨sv, 1 + 4 * i, none⟩ (.slice A2 (n + nb) c2) = w3 at hXw ⊢
  have HBd := Lib.hid (svBody_fr hXw.1.bk hi hX (by rw [upC_same]; exact hXw.2.1) ho HLy.out.b)
  have HX := Lib.hid hXw
  clear hXw HW c0 z0
  with_reducible refine HBd.out.mono ?_
  rintro er w4 ⟨A4, n4, c4, v4, rfl, hr4, hp4, hv4, hw4, hC4⟩
  rw [upC_up] at hw4
  rw [upC_same] at hv4
  have HS4 := HX.out.1.step HLy.out hw4
  have HT4 := HX.out.2.2.trans hw4.tu (fun _ _ h => .inl h)
  have HP4 : Hid (Wq0 w w4 sv b r t g s tb gr me last cf cs i X out (.slice A4 n4 c4)) := ⟨⟨A4, n4, c4, rfl, hr4⟩, ⟨v4, hv4, HS4, hC4⟩, HT4⟩
  clear hr4 hp4 hv4 hw4 hC4 HS4 HT4 HBd HX HS2 HC2 HT2 HO2
  go_wp2_with fail
  go_loopw [6, 7] (fun x ok wr => ∃ (A : Option Addr) (n c : Nat) (k : Bool), x = .slice A n c ∧ ok = .bool k ∧ Hid ((k = true → Wq0 w wr sv b r t g s tb gr me last cf cs i X out (.slice A n c)) ∧ (k = false → Wq1 w wr sv b r t g s tb gr me last cf cs i out))) (fun _ ok _ => match ok with | .bool true => 1 | _ => 0)
  case atStart => exact ⟨A4, n4, c4, true, rfl, rfl, fun _ => HP4.out, fun h => by cases h⟩
  case round =>
    obtain ⟨Ax, nx, cx, k, rfl, rfl, hP⟩ := hrel
    clear HP4
    clear hln
    cases k with
    | false =>
      obtain ⟨⟨v, ws, hS, hC⟩, hT⟩ := hP.out.2 rfl
      obtain ⟨Ai, ni, ci, f1, f2, f3⟩ := hC.inp
      have c0 : wr.cell? ⟨sv, 1 + 4 * i, none⟩ = some (.slice Ai ni ci) := by rw [hS.bk.cell, (svA_get _ hi).1, upC_same, f1]
      have hni : ni ≤ 1000000 := by rw [← f2.len]; simp
      have HCl := Lib.hid (clone_own Ai ni ci [] wr f2 hni)
      have HCn := Lib.hid hC
      have HF1 := Lib.hid f1
      have hslr := Lib.hid hS.bk.lt
      have HSr := Lib.hid hS
      have HTr := Lib.hid hT
      clear hP hC f1 f2 f3 hni hS hT
      go_wp2_with fail
      with_reducible refine HCl.out.mono ?_
      rintro er w5 ⟨u5, rfl, ho5, hb5⟩
      have HS5 := Lib.hid (HSr.out.ext hb5)
      have z0 := HS5.out.bk.thaw (1 + 4 * i)
      have d0 : w5.cell? ⟨sv, 1 + 4 * i, none⟩ = some (.slice Ai ni ci) := by rw [HS5.out.bk.cell, (svA_get _ hi).1, upC_same, HF1.out]
      have HO5 := Lib.hid ho5
      have HC5 := Lib.hid (HCn.out.turned (Turned.of_below (P := fun _ => False) hb5) (fun _ h => h.elim))
      have HT5 := Lib.hid (HTr.out.then_below hb5)
      obtain ⟨Au, cu, hu, _⟩ := ho5.reads
      have hu0 : u5 = .slice Au 0 cu := hu
      clear hu
      subst hu0
      clear hb5 ho5 HCl HSr HTr HCn
      go_wp2_with fail
      go_end0
      have hw := (⟨HS5.out.bk, Turned.refl _ _⟩ : SvW w5 w5 sv b _).put (svA_set _ hi (.slice Au 0 cu)).1
      rw [upC_same, upC_up] at hw
      have hC6 := HC5.out.turned hw.tu (fun _ h => .inl h)
      have hsl := hslr.out
      have hbv := HLy.out.b
      have hpu : ∀ ad, Au = some ad → ad.block ≠ sv ∧ ad.block ≠ b := by
        intro ad e
        rcases HO5.out.open_ with ⟨h1, _⟩ | ⟨g, cap, h1, h2, _⟩
        · injection h1 with h3 _ _
          rw [h3] at e
          cases e
        · injection h1 with h3 _ _
          rw [h3] at e
          injection e with e
          subst e
          simp only
          omega
      exact ⟨rfl, ⟨.slice Au 0 cu, v.past, v.out, v.aw⟩, ws, ⟨⟨_, _, _, rfl, RdB.turned HO5.out.rd hw.tu (fun a e q => (hpu a e).1 q), hpu⟩, hC6.past, hC6.out⟩, HS5.out.step HLy.out hw, HT5.out.trans hw.tu (fun _ _ h => .inl h)⟩
    | true =>
      obtain ⟨⟨Ax', nx', cx', hxe, hX0⟩, ⟨v, hv, hS, hC⟩, hT⟩ := hP.out.1 rfl
      injection hxe with q1 q2 q3
      subst q1 q2 q3
      have hnx : nx ≤ 1000000 := by rw [← hX0.len]; omega
      have HGet := Lib.hid (aget_ok Ax nx cx X wr hX0 hnx a HG.out)
      have HSr := Lib.hid hS
      have HTr := Lib.hid hT
      have HC := Lib.hid hC
      have HV := Lib.hid hv
      clear hP hX0 hC hT hS hv
      go_wp2_with (first | (go_at_call 14; go_loud ((with_reducible refine HGet.out.mono ?_); rintro er w5 ⟨A5, n5, c5, rfl, hr5, hb5, hp5⟩)) | fail)
      have hba := hb5.trans (below_le hb5.size (below_new w5 (.cells (askC a.corr a.kind a.topic a.group a.part a.parts a.first a.off a.most a.time a.bat.time a.bat.prod a.bat.seq A5 n5 c5) 32)))
      have hka := Bk.made w5 32 (askC a.corr a.kind a.topic a.group a.part a.parts a.first a.off a.most a.time a.bat.time a.bat.prod a.bat.seq A5 n5 c5)
      have hra5 := RdT.ext hr5 (below_new w5 (.cells (askC a.corr a.kind a.topic a.group a.part a.parts a.first a.off a.most a.time a.bat.time a.bat.prod a.bat.seq A5 n5 c5) 32))
      have hsv := HSr.out.bk.lt
      have hbv := HLy.out.b
      have hlt5 : wr.heap.size ≤ w5.heap.size := hb5.size
      generalize w5.alloc (.cells (askC a.corr a.kind a.topic a.group a.part a.parts a.first a.off a.most a.time a.bat.time a.bat.prod a.bat.seq A5 n5 c5) 32) = wa at hba hka hra5 ⊢
      have hga : w5.heap.size ≠ b := by omega
      generalize w5.heap.size = ga at hka hga ⊢
      have hAb : ∀ ad, A5 = some ad → ad.block ≠ b := fun ad e => by have := hp5 ad e; omega
      have HSa := Lib.hid (HSr.out.ext hba)
      have HCa := Lib.hid (HC.out.turned (Turned.of_below (P := fun _ => False) hba) (fun _ h => h.elim))
      have HTa := Lib.hid (HTr.out.then_below hba)
      have HKa := Lib.hid hka
      have HRa5 := Lib.hid hra5
      have HAb := Lib.hid hAb
      have hlw : t < wa.heap.size ∧ g < wa.heap.size ∧ s < wa.heap.size ∧ tb < wa.heap.size := by
        have := HLy.out.b2
        have := hba.size
        omega
      clear hba hka hra5 hb5 hr5 hp5 hAb hsv
      have FS : Hid (∀ v, Turned (fun j => j = b) wa v → (Turned (fun j => j = b) wa v ∧ v.cell? ⟨sv, 0, none⟩ = some (.pointer (some ⟨b, 0, none⟩)) ∧ (ldA (.pointer (some ⟨ga, 0, none⟩))).run Tryz.prog v = .ok (.agg (askC a.corr a.kind a.topic a.group a.part a.parts a.first a.off a.most a.time a.bat.time a.bat.prod a.bat.seq A5 n5 c5)) v)) := fun v hv => ⟨hv, (HSa.out.bk.turned hv (by have := HLy.out.b; omega)).cell 0, ldA_bk (HKa.out.turned hv hga)⟩
      have HSv : Hid (∀ v, Below wa.heap.size wa v → Calls Tryz.prog 64 #[.pointer (some ⟨b, 0, none⟩), .agg (askC a.corr a.kind a.topic a.group a.part a.parts a.first a.off a.most a.time a.bat.time a.bat.prod a.bat.seq A5 n5 c5)] v fun e w' => e = .returned (.tuple #[.int .i64 (last + 1), .agg (rpC 0 0 0 0), .bool false]) ∧ ∃ ws', BrkAt w' b r t g s tb gr me ws' (last + 1) cf ∧ Turned (fun i => i = b) v w') := fun v hv => by
        have hst := (HSto.out _ HTa.out).ext hv
        have hlv : t < v.heap.size ∧ g < v.heap.size ∧ s < v.heap.size ∧ tb < v.heap.size := by have := hv.size; omega
        refine (bServe_wr hst HCf.out (HSa.out.br.ext hv) (HSa.out.el.below hv) hob HLy.out.b1 hlv hl0 (by omega) (Bw := 0) (xs := []) (World.ownsRow_nil _ _ _ _) (Nat.zero_le _) (by omega) (fun j hj => by cases hj) a A5 n5 c5 (HRa5.out.ext hv) HAb.out HRa.out HWk.out).mono ?_
        rintro e w' ⟨rfl, A', c', h1, _, _, h4⟩
        exact ⟨rfl, _, h1, h4.more (fun _ _ h => by rcases h with h | h; exact h; cases h)⟩
      have KT : Hid (∀ (v : World) (R : Prop), Turned (fun j => j = b) wa v ∧ R → Turned (fun j => j = b) wa v) := fun v R h => h.1
      have B0 : Hid (Below wa.heap.size wa wa.drew) := below_drew1 (Below.refl _ _)
      have B1 : Hid (Below wa.heap.size wa (wa.alloc (.cells #[.int .i64 0, .int .i64 0, .int .i64 0, .int .i64 0, .slice none 0 0, .slice none 0 0] 43)).drew) := below_drew1 (below_new wa (.cells #[.int .i64 0, .int .i64 0, .int .i64 0, .int .i64 0, .slice none 0 0, .slice none 0 0] 43))
      go_region_held3 (fun v => Turned (fun j => j = b) wa v ∧ v.cell? ⟨sv, 0, none⟩ = some (.pointer (some ⟨b, 0, none⟩)) ∧ (ldA (.pointer (some ⟨ga, 0, none⟩))).run Tryz.prog v = .ok (.agg (askC a.corr a.kind a.topic a.group a.part a.parts a.first a.off a.most a.time a.bat.time a.bat.prod a.bat.seq A5 n5 c5)) v) (first | exact FS.out _ (Turned.of_below B0.out) | exact FS.out _ (Turned.of_below B1.out) | exact FS.out _ T6.out | exact FS.out _ (T6.out.then_below (below_new _ _)) | exact FS.out _ ((KT.out _ _ (by assumption)).then_grown (grown_row _ _ _) (fun k e => .inr (by rw [← Option.some.inj e]; first | exact Nat.le_refl _ | exact T6.out.size))) | fail) (first | (go_at_call 64; go_loud ((with_reducible refine (HSv.out _ B0.out).mono ?_); rintro er w6 ⟨rfl, ws6, hb6, ht6⟩; have T6 := Lib.hid ((Turned.of_below (P := fun j => j = b) B0.out).trans ht6 (fun _ _ h => h)); have hI6 : ∀ G, isRp wa G → isRp w6 G := fun G h => (h.ext B0.out).serve (HSa.out.br.bk.ext B0.out) ht6)) | (go_at_call 64; go_loud ((with_reducible refine (HSv.out _ B1.out).mono ?_); rintro er w6 ⟨rfl, ws6, hb6, ht6⟩; have T6 := Lib.hid ((Turned.of_below (P := fun j => j = b) B1.out).trans ht6 (fun _ _ h => h)); have hI6 : isRp w6 wa.heap.size := ((isRp_drew _ _).2 ((isRp_alloc _ _).2 (.inr rfl))).serve (HSa.out.br.bk.ext B1.out) ht6)) | fail)
      have hf := serve_row2 HSa.out HLy.out hb6 T6.out (below_new w6 (.cells #[.int .i64 0, .int .i64 0, .int .i64 0, .int .i64 0, .slice none 0 0, .slice none 0 0] 43)) T6.out.size HCa.out 0 0
      have HF := Lib.hid hf
      clear hf
      generalize (w6.alloc (.cells #[.int .i64 0, .int .i64 0, .int .i64 0, .int .i64 0, .slice none 0 0, .slice none 0 0] 43)).setRow w6.heap.size (rpC 0 0 0 0) = wy at HF ⊢
      rotate_left
      have hf := serve_row2 HSa.out HLy.out hb6 T6.out (Below.refl _ _) (Nat.le_refl _) HCa.out 0 0
      have HF := Lib.hid hf
      clear hf
      generalize w6.setRow wa.heap.size (rpC 0 0 0 0) = wy at HF ⊢
      rotate_left
      all_goals
        have HSy := Lib.hid HF.out.1
        have HCy := Lib.hid HF.out.2.1
        have HTy := Lib.hid (HTa.out.trans HF.out.2.2 (fun _ _ h => .inr h))
        clear HF FS HSv KT B0 B1 T6 hI6 ht6 hb6 HKa HRa5 HSa HCa HTa
        have c3 : wy.cell? ⟨sv, 1 + 4 * i + 3, none⟩ = some (.slice none 0 0) := by rw [HSy.out.bk.cell, (svA_get _ hi).2.2.2, upC_same, HV.out, haw]
        have hny := below_new wy (.cells #[.int .i64 (last + 1)] 3)
        have HNy := Lib.hid hny
        have c3n : (wy.alloc (.cells #[.int .i64 (last + 1)] 3)).cell? ⟨sv, 1 + 4 * i + 3, none⟩ = some (.slice none 0 0) := by rw [(HSy.out.bk.alloc _).cell, (svA_get _ hi).2.2.2, upC_same, HV.out, haw]
        clear hny
        go_wp2_with (first | (at_builtin; go_loud (refine wpList_append_gen rfl (.tmp 66) (.tmp 68) 45 rfl 3 ii _ 1 8 Tryz.underlying45 HI.out HZ.out HSz.out HY.out rfl (by omega) wy.heap.size wy (.slice none 0 0) 0 [] rfl (World.ownsRow_nil _ _ _ _) ⟨wy.heap.size, 0, none⟩ 1 1 [.int .i64 (last + 1)] rfl rfl (cell_one1 _ _ _) (one_i64 _) (by unfold maxLen; omega) (by omega) HNy.out HNy.out.size ?_); intro A9 c9 w9 ho9 hg9 hob9 hb9 hs9; have HS9 := Lib.hid (HSy.out.ext hb9); have d3 : w9.cell? ⟨sv, 1 + 4 * i + 3, none⟩ = some (.slice none 0 0) := (HS9.out.bk.cell _).trans (by rw [(svA_get _ hi).2.2.2, upC_same, HV.out, haw]); have z3 := HS9.out.bk.thaw (1 + 4 * i + 3)) | fail)
        all_goals
          have hw := (⟨HS9.out.bk, Turned.refl _ _⟩ : SvW w9 w9 sv b _).put (svA_set _ hi (.slice A9 1 c9)).2.2.2
          rw [upC_same, upC_up] at hw
          have hC9 := HCy.out.turned (Turned.of_below (P := fun _ => False) hb9) (fun _ h => h.elim)
          have hC10 := hC9.turned hw.tu (fun _ h => .inl h)
          have HS10 := Lib.hid (HS9.out.step HLy.out hw)
          have HC10 : Hid (CnAt (w9.setCell ⟨sv, 1 + 4 * i + 3, none⟩ (.slice A9 1 c9)) ⟨v.inp, v.past, v.out, .slice A9 1 c9⟩ sv b [] 0 out) := ⟨hC10.inp, hC10.past, hC10.out⟩
          have HT10 := Lib.hid ((HTy.out.then_below hb9).trans hw.tu (fun _ _ h => .inl h))
          clear hw hC9 hC10 HS9 hb9 d3 z3 c3 c3n ho9 hg9 hob9 hs9 HNy HSy HCy HTy
          generalize w9.setCell ⟨sv, 1 + 4 * i + 3, none⟩ (.slice A9 1 c9) = w10 at HS10 HC10 HT10 ⊢
          have HBy := Lib.hid (svBody_no HS10.out.bk hi (by rw [upC_same]; exact HC10.out) ho HLy.out.b)
          go_wp2_with fail
          with_reducible refine HBy.out.mono ?_
          rintro er w11 ⟨rfl, v11, hv11, hw11, hC11⟩
          rw [upC_up] at hw11
          have HQ : Hid (Wq1 w w11 sv b r t g s tb gr me last cf cs i out) := ⟨⟨v11, ws6, HS10.out.step HLy.out hw11, hC11⟩, HT10.out.trans hw11.tu (fun _ _ h => .inl h)⟩
          clear hv11 hw11 hC11 HBy
          go_wp2_with fail
          exact ⟨⟨none, 0, 0, false, rfl, rfl, fun h => (by cases h), fun _ => HQ.out⟩, by simp⟩
set_option maxRecDepth 100000 in
set_option maxHeartbeats 4000000 in
theorem svDo_w0 {w : World} {sv b r t g s tb gr : Nat} {me : Value} {last : Int} {cf : CfgM} {cs : Nat → CV} (hS : SvAt w sv b r t g s tb gr me (.slice none 0 0) last cf cs) (hl : SvL sv b t g s tb) {o : Nat → Option Nat} {n' S : Nat} {W : Nat → Nat → List UInt8} (hSt : StoAt w o r n' S W) (hcf : cf.At n' S) (hob : o b = none) (hos : o sv = none) {i : Nat} (hi : i < 4) {out : List UInt8} (hC : CnAt w (cs i) sv b [] 0 out) (haw : (cs i).aw = .slice none 0 0) {Ab : Option Addr} {nb cb : Nat} {X : List UInt8} (hb : RdB w Ab nb cb (frU X)) (hX : X.length ≤ 1024) (ho : out.length ≤ 700000) (hl0 : 0 ≤ last) (hl1 : last ≤ 900000) {a : Ask} (hg : getA X = .ok a) (hwk : writK a.kind = true) :
    Calls Tryz.prog 10 #[.pointer (some ⟨sv, 0, none⟩), .agg (stepC 1 i 0 0 0 0 Ab nb cb)] w fun e w' => e = .returned (.bool true) ∧ ∃ v ws, CnAt w' v sv b [] 0 out ∧ SvAt w' sv b r t g s tb gr me ws (last + 1) cf (upC cs i v) ∧ Turned (fun j => j = sv ∨ j = b) w w' := by
  have hb1 := below_new w (.cells (stepC 1 i 0 0 0 0 Ab nb cb) 37)
  have hS1 := hS.ext hb1
  have c0 : (w.alloc (.cells (stepC 1 i 0 0 0 0 Ab nb cb) 37)).cell? ⟨sv, 0, none⟩ = some (.pointer (some ⟨b, 0, none⟩)) := hS1.bk.cell 0
  have HRk := Lib.hid (bRack_any hS1.br.bk)
  have HKn := Lib.hid (known_any i (w.alloc (.cells (stepC 1 i 0 0 0 0 Ab nb cb) 37)))
  have hd : decide ((0 : Int) ≤ i ∧ (i : Int) < 4) = true := decide_eq_true (by omega)
  rw [hd] at HKn
  have hbd : Below w.heap.size w (w.alloc (.cells (stepC 1 i 0 0 0 0 Ab nb cb) 37)).drew := below_drew1 hb1
  have hBy := svBytes_w0 (hS.ext hbd) hl (hSt.ext hbd) hcf hob hos hi (hC.turned (Turned.of_below (P := fun _ => False) hbd) (fun _ h => h.elim)) haw (hb.ext hbd) hX ho hl0 hl1 hg hwk
  have hks := Bk.made w 37 (stepC 1 i 0 0 0 0 Ab nb cb)
  have hg1 : w.heap.size ≠ sv ∧ w.heap.size ≠ b := by
    have := hS.bk.lt
    have := hS.br.bk.lt
    omega
  have HT2 : Hid (Turned (fun j => j = sv ∨ j = b) w (w.alloc (.cells (stepC 1 i 0 0 0 0 Ab nb cb) 37)).drew) := Turned.of_below hbd
  rw [Nat.mul_comm] at hBy
  have HBy := Lib.hid hBy
  have HKs := Lib.hid hks
  clear hb1 hS1 hS hC hb hd hBy hl hks hbd hSt hcf hg hwk haw
  go_enter Tryz.func10, Tryz.ntmps10
  go_wp2_with (first | (go_at_call 26; go_loud (with_reducible refine HRk.out.mono ?_); rintro er w1 ⟨rfl, rfl⟩) | (go_at_call 27; go_loud (with_reducible refine HKn.out.mono ?_); rintro er w2 ⟨rfl, rfl⟩) | fail)
  clear c0 HRk HKn
  generalize w.alloc (.cells (stepC 1 i 0 0 0 0 Ab nb cb) 37) = w1 at HBy HT2 HKs ⊢
  generalize w.heap.size = gs at HKs hg1 ⊢
  have FS : Hid (∀ v, Turned (fun j => j = sv ∨ j = b) w1 v → (v.cell? ⟨gs, 1, none⟩ = some (.int .i64 i) ∧ v.cell? ⟨gs, 7, none⟩ = some (.slice Ab nb cb))) := fun v hv => ⟨(HKs.out.turned hv (by omega)).cell 1, (HKs.out.turned hv (by omega)).cell 7⟩
  have B0 : Hid (Below w1.heap.size w1 w1.drew) := below_drew1 (Below.refl _ _)
  have hi0 : (0 : Int) ≤ (i : Int) := by omega
  have hi4 : (i : Int) < 4 := by omega
  go_region_held3 (fun v => v.cell? ⟨gs, 1, none⟩ = some (.int .i64 i) ∧ v.cell? ⟨gs, 7, none⟩ = some (.slice Ab nb cb)) (first | exact FS.out _ (Turned.of_below B0.out) | exact FS.out _ T4.out | fail) (first | (go_at_call 28; go_loud ((with_reducible refine HBy.out.mono ?_); rintro er w4 ⟨rfl, v, ws, a1, a2, a8⟩; have T4 := Lib.hid ((Turned.of_below (P := fun j => j = sv ∨ j = b) B0.out).trans a8 (fun _ _ h => h)))) | fail)
  have HF := Lib.hid (And.intro a1 (And.intro a2 (HT2.out.trans a8 (fun _ _ h => h))))
  clear a1 a2 a8
  go_wp2_with fail
  go_ret
  exact ⟨rfl, v, ws, HF.out⟩
end Go.Proofs.YtkdlofgfkfhofaaGreatDoor
