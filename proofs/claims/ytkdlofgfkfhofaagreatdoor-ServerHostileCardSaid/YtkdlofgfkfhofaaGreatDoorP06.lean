import Derived.Test.YtkdlofgfkfhofaaGreatDoorP05
import Derived.Maps.RangeWalk
/-
  disk: put, Flush.
-/
namespace Go.Proofs.YtkdlofgfkfhofaaGreatDoor
open Go.RowKit Go.Maps

/-- a block that is no row of bytes -/
def Struc (w : World) (g : Nat) : Prop := (∃ cs, Bk w g 26 cs) ∨ (∃ es clock, w.heap[g]? = some (.map es clock))
theorem OwnB.notS {w : World} {B : Nat} {v : Value} {l : List UInt8} (h : OwnB w B v l) {g : Nat} (hg : v.ownBlock = some g) : ¬ Struc w g := fun hs => by
  rcases h.2 with ⟨rfl, _⟩ | ⟨g', cap', cur, rfl, _, h3, _⟩
  · cases hg
  · have e2 : g' = g := Option.some.inj hg
    rw [e2] at h3
    rcases hs with ⟨cs, hs⟩ | ⟨es, clock, hs⟩
    · unfold Bk at hs
      rw [hs] at h3
      injection h3 with h3
      injection h3 with _ h3
      exact absurd h3 (by decide)
    · rw [hs] at h3
      cases h3
theorem OwnB.turnS {w w' : World} {B : Nat} {Q : Nat → Prop} {v : Value} {l : List UInt8} (h : OwnB w B v l) (ht : Turned Q w w') (hq : ∀ g, Q g → Struc w g) : OwnB w' B v l := h.turnB ht fun _ hg hx => h.notS hg (hq _ hx)
theorem WtAt.turnS {w w' : World} {P Q : Nat → Prop} {D : DataW Value} {M : DskM} (h : WtAt w P D M) (ht : Turned Q w w') (hq : ∀ g, Q g → Struc w g) : WtAt w' P D M :=
  ⟨fun i b hb => by
    obtain ⟨v, h1, h2, h3, h4⟩ := h.yes i b hb
    exact ⟨v, h1, h2, h3.turnS ht hq, h4⟩, h.no, h.keys⟩
theorem map_struc {H : Type} {w : World} {k : TypeId} {R : Value → Option (DataW H × List MemPlace)} {b n : Nat} {D : DataW H} (h : w.ownsMap Tryz.prog k R b n D) : Struc w b := by
  obtain ⟨es, clock, h2, _⟩ := h
  exact .inr ⟨es, clock, h2⟩
theorem Bk.notM {w : World} {g : Nat} {t : TypeId} {cs : Array Value} (h : Bk w g t cs) {b : Nat} (e : b = g) (hm : ∃ es clock, w.heap[b]? = some (.map es clock)) : False := by
  obtain ⟨es, clock, hm⟩ := hm
  unfold Bk at h
  rw [e, h] at hm
  cases hm
theorem RotAt.struc {w : World} {P : Nat → Prop} {rb n : Nat} (h : RotAt w P rb n) : ∃ es clock, w.heap[rb]? = some (.map es clock) := by
  obtain ⟨⟨E, ⟨es, clock, h2, _⟩, _⟩, _⟩ := h
  exact ⟨es, clock, h2⟩
theorem RotAt.turned' {w w' : World} {P Q : Nat → Prop} {rb n : Nat} (h : RotAt w P rb n) (ht : Turned Q w w') (hq : ¬ Q rb) : RotAt w' P rb n := by
  obtain ⟨⟨E, h1, h2⟩, h3⟩ := h
  exact ⟨⟨E, map_turned h1 ht hq, h2⟩, h3⟩
theorem DskP.dl {P : Nat → Prop} {d lb wb rb cap : Nat} {C : Array Value} {D : DataW Value} {M : DskM} {w : World} (hp : DskP w P d lb wb rb cap C D M) : d ≠ lb := fun e => by
  have a1 := hp.bk
  have a2 := hp.sec.bk
  rw [← e] at a2
  unfold Bk at a1 a2
  rw [a1] at a2
  injection a2 with a2
  injection a2 with _ a3
  exact absurd a3 (by decide)
theorem DskP.dr {P : Nat → Prop} {d lb wb rb cap : Nat} {C : Array Value} {D : DataW Value} {M : DskM} {w : World} (hp : DskP w P d lb wb rb cap C D M) : d ≠ rb := fun e => hp.bk.notM e.symm hp.rot.struc
def DskM.setSec (M : DskM) (i : Nat) (b : List UInt8) : DskM := { M with sec := fun j => if j = i then b else M.sec j }
theorem SecAt.put {w : World} {P : Nat → Prop} {lb : Nat} {C : Array Value} {M : DskM} (h : SecAt w P lb C M) {i : Nat} (hi : i < M.n) {v : Value} {b : List UInt8} (hv : OwnB w 0 v b) (hp : ∀ g, v.ownBlock = some g → P g) :
    SecAt (w.setCell ⟨lb, i, none⟩ v) P lb (C.setIfInBounds i v) (M.setSec i b) := by
  have hg := grown_set w ⟨lb, i, none⟩ v
  have ht : Turned (fun g => g = lb) w _ := Turned.of_grown hg (fun k e => (Option.some.inj e).symm)
  have hq : ∀ g, g = lb → Struc w g := fun g e => by rw [e]; exact .inl ⟨_, h.bk⟩
  refine ⟨h.bk.put i v, h.own, fun j hj => ?_⟩
  by_cases e : j = i
  · subst e
    obtain ⟨u, h1, _⟩ := h.at_ j hj
    have hlt : j < C.size := (Array.getElem?_eq_some_iff.1 h1).1
    refine ⟨v, by rw [Array.getElem?_setIfInBounds_self]; exact if_pos hlt, ?_, hp⟩
    show OwnB _ 0 v (if j = j then b else M.sec j)
    rw [if_pos rfl]
    exact hv.turnS ht hq
  · obtain ⟨u, h1, h2, h3⟩ := h.at_ j hj
    refine ⟨u, by rw [Array.getElem?_setIfInBounds_ne (by omega)]; exact h1, ?_, h3⟩
    show OwnB _ 0 u (if j = i then b else M.sec j)
    rw [if_neg e]
    exact h2.turnS ht hq
theorem SecAt.turnS {w w' : World} {P Q : Nat → Prop} {lb : Nat} {C : Array Value} {M : DskM} (h : SecAt w P lb C M) (ht : Turned Q w w') (hq : ∀ g, Q g → Struc w g) (hl : ¬ Q lb) : SecAt w' P lb C M :=
  ⟨h.bk.turned ht hl, h.own, fun i hi => by
    obtain ⟨v, h1, h2, h3⟩ := h.at_ i hi
    exact ⟨v, h1, h2.turnS ht hq, h3⟩⟩
/-- what waits for a sector, looked up without asking whether it is there -/
theorem wt_look1 {w : World} {P : Nat → Prop} {wb N : Nat} {D : DataW Value} {M : DskM} (ho : w.ownsMap Tryz.prog 3 rawElem wb N D) (hw : WtAt w P D M) {i : Nat} (hi : i < 1000) {b : List UInt8} (hb : M.wt i = some b) :
    ∃ v, (Instr.lookup 179 (.map (some wb)) (.int .i64 (i : Int)) false).run Tryz.prog w = .ok v w ∧ OwnB w 0 v b ∧ ∀ g, v.ownBlock = some g → P g := by
  obtain ⟨v, ps, hlk, hv⟩ := ho.lookup key_intd2 Tryz.underlying179 (zero_bs _) (show rawElem (.slice none 0 0) = some (.held (.slice none 0 0), []) from rfl) (keyOf_int_mk Tryz.underlying3 (wf_int (z := (i : Int)) (by omega) (by omega)))
  have hv : some (DataW.held v, ([] : List MemPlace)) = some (_, ps) := hv
  injection hv with hv
  injection hv with hv _
  obtain ⟨u, h3, h4, h5, h6⟩ := hw.yes i b hb
  rw [h4] at hv
  injection hv with hv
  exact ⟨u, by rw [hlk, hv], h5, h6⟩
set_option maxRecDepth 100000 in
set_option maxHeartbeats 2000000 in
/-- disk.put: what waits for a sector is there -/
theorem dskPut_any {P : Nat → Prop} {d lb wb rb cap N : Nat} {dead : Bool} {C : Array Value} {D : DataW Value} {M M1 : DskM} {w : World} (hd : Bk w d 182 #[.slice (some ⟨lb, 0, none⟩) M.n cap, .map (some wb), .map (some rb), .bool dead])
    (hs : SecAt w P lb C M1) (hM : M1.n = M.n) (hm : w.ownsMap Tryz.prog 3 rawElem wb N D) (hw : WtAt w P D M) (hr : RotAt w P rb M.n) (h128 : M.n ≤ 128) (i : Nat) (hi : i < M.n) {b : List UInt8} (hb : M.wt i = some b) :
    Calls Tryz.prog 125 #[.pointer (some ⟨d, 0, none⟩), .int .i64 (i : Int)] w fun e w' => e = .returned (.tuple #[]) ∧ Turned (fun g => g = lb ∨ g = rb) w w' ∧ (∃ C', SecAt w' P lb C' (M1.setSec i b)) ∧ RotAt w' P rb M.n := by
  obtain ⟨v, hlk, hv, hvp⟩ := wt_look1 (map_turned (P := fun _ => False) hm (Turned.of_below (below_drew1 (Below.refl _ w))) id) (hw.turnS (Q := fun _ => False) (Turned.of_below (below_drew1 (Below.refl _ w))) (fun _ h => h.elim)) (i := i) (by omega) hb
  obtain ⟨A, c, rfl, _⟩ := hv.reads
  have c0 : w.cell? ⟨d, 0, none⟩ = some (.slice (some ⟨lb, 0, none⟩) M.n cap) := hd.cell 0
  have c1 : w.cell? ⟨d, 1, none⟩ = some (.map (some wb)) := hd.cell 1
  have c2 : w.cell? ⟨d, 2, none⟩ = some (.map (some rb)) := hd.cell 2
  have c3 : w.frozen? ⟨lb, i, none⟩ = false := hs.bk.thaw i
  obtain ⟨u, c4⟩ : ∃ u, w.cell? ⟨lb, i, none⟩ = some u := by
    obtain ⟨u, h1, _⟩ := hs.at_ i (by omega)
    exact ⟨u, (hs.bk.cell i).trans h1⟩
  have hi2 : (i : Int) < M.n := by omega
  have HS := Lib.hid hs
  have HR := Lib.hid hr
  have HV := Lib.hid hv
  have HD := Lib.hid hd
  have hdl : d ≠ lb := fun e => by
    have a1 := hd
    have a2 := hs.bk
    rw [← e] at a2
    unfold Bk at a1 a2
    rw [a1] at a2
    injection a2 with a2
    injection a2 with _ a3
    exact absurd a3 (by decide)
  have HDL := Lib.hid hdl
  clear hs hr hv hm hw hb hd hdl
  go_enter Tryz.func125, Tryz.ntmps125
  go_wp2_with fail
  go_region
  have hS2 := HS.out.put (i := i) (by omega) (show OwnB w 0 _ b from HV.out) hvp
  have hg := grown_set w ⟨lb, i, none⟩ (.slice A b.length c)
  have ht : Turned (fun g => g = lb) w (w.setCell ⟨lb, i, none⟩ (.slice A b.length c)).drew := (Turned.of_grown hg (fun k e => (Option.some.inj e).symm)).then_below (below_drew1 (Below.refl _ _))
  have hS2 : SecAt (w.setCell ⟨lb, i, none⟩ (.slice A b.length c)).drew P lb _ (M1.setSec i b) := hS2.turnS (Q := fun _ => False) (Turned.of_below (below_drew1 (Below.refl _ _))) (fun _ h => h.elim) id
  generalize (w.setCell ⟨lb, i, none⟩ (.slice A b.length c)).drew = W at hS2 ht ⊢
  have d2 : W.cell? ⟨d, 2, none⟩ = some (.map (some rb)) := (HD.out.turned ht HDL.out).cell 2
  have HS2 := Lib.hid hS2
  have HT := Lib.hid ht
  have hR2 := HR.out.turned' ht (fun e => HS.out.bk.notM e HR.out.struc)
  obtain ⟨⟨E, hE, hEk⟩, hPr⟩ := hR2
  obtain ⟨w3, hrun, hm3, hg3⟩ := hE.update key_intd2 Tryz.underlying180 (by decide) (keyOf_int_mk Tryz.underlying3 (wf_int (z := (i : Int)) (by omega) (by omega))) (plainElem_bool Tryz.underlying4 false)
  have HM3 := Lib.hid hm3
  have HG3 := Lib.hid hg3
  have HE := Lib.hid hE
  have HEk := Lib.hid hEk
  clear hS2 hg ht hm3 hg3 hE hEk
  go_upto_region 1 with fail
  go_wp2_with fail
  go_end0
  have ht3 : Turned (fun g => g = rb) W w3 := Turned.of_grown HG3.out (fun k e => (Option.some.inj e).symm)
  have hk3 : ∀ k, Maps.has (E.put (.int .i64 (i : Int)) (DataW.lit (.bool false))) k = true → ∃ j : Nat, k = .int .i64 (j : Int) ∧ j < M.n := fun q hq => by
    by_cases e : q = .int .i64 (i : Int)
    · exact ⟨i, e, hi⟩
    · rw [has_put_other e] at hq
      exact HEk.out q hq
  refine ⟨rfl, (HT.out.more (fun _ _ e => .inl e)).trans (ht3.more (fun _ _ e => .inr e)) (fun _ _ e => e), ⟨_, HS2.out.turnS ht3 (fun g e => by rw [e]; exact map_struc HE.out) (fun e => HS2.out.bk.notM e.symm (by obtain ⟨es, clock, h2, _⟩ := HE.out; exact ⟨es, clock, h2⟩))⟩, ⟨⟨_, (own_tight HM3.out).mono (Nat.le_trans (keys_few (HM3.out.canon key_intd2) hk3) h128), hk3⟩, hPr⟩⟩
/-- what Flush's rounds leave -/
structure FlA (w wr : World) (P : Nat → Prop) (lb wb rb r : Nat) (D : DataW Value) (M : DskM) (left : Lit → Bool) (cnt : Nat) : Prop where
  rg : wr.ranges Tryz.prog 3 rawElem wb r 128 D left cnt
  turned : Turned (fun b => b = lb ∨ b = rb) w wr
  sec : ∃ C, SecAt wr P lb C (M.puts fun j => !left (.int .i64 (j : Int)))
  rot : RotAt wr P rb M.n
theorem puts_set {M : DskM} {p : Nat → Bool} {i : Nat} {b : List UInt8} (hb : M.wt i = some b) : (M.puts p).setSec i b = M.puts fun j => p j || decide (j = i) := by
  unfold DskM.setSec DskM.puts
  congr 1
  funext j
  dsimp only
  by_cases h : j = i
  · subst h
    rw [if_pos rfl, hb]
    by_cases hpj : p j = true <;> simp [hpj]
  · rw [if_neg h]
    simp [h]
theorem puts_step {M : DskM} {left : Lit → Bool} {i : Nat} {b : List UInt8} (hb : M.wt i = some b) :
    (M.puts fun j => !left (.int .i64 (j : Int))).setSec i b = M.puts fun j => !(left (.int .i64 (j : Int)) && !(Lit.int .i64 (j : Int)).sameKey (.int .i64 (i : Int))) := by
  rw [puts_set hb]
  refine congrArg M.puts (funext fun j => ?_)
  have e : (Lit.int .i64 (j : Int)).sameKey (.int .i64 (i : Int)) = decide (j = i) := by
    show (_ : Bool) = _
    simp [Lit.sameKey]
    omega
  rw [e]
  cases left (.int .i64 (j : Int)) <;> cases decide (j = i) <;> rfl
theorem puts_none {M : DskM} {left : Lit → Bool} (h : ∀ i : Nat, left (.int .i64 (i : Int)) = (M.wt i).isSome) : (M.puts fun j => !left (.int .i64 (j : Int))) = M := by
  unfold DskM.puts
  have e : (fun j : Nat => if (!left (.int .i64 (j : Int))) = true then (M.wt j).getD (M.sec j) else M.sec j) = M.sec := funext fun j => by
    rw [h j]
    cases M.wt j <;> rfl
  rw [e]
theorem WtAt.hasE {w : World} {P : Nat → Prop} {D : DataW Value} {M : DskM} (h : WtAt w P D M) (i : Nat) : Maps.has D (.int .i64 (i : Int)) = (M.wt i).isSome := by
  cases hb : M.wt i with
  | none => exact h.no i hb
  | some b =>
    obtain ⟨v, h1, _⟩ := h.yes i b hb
    exact h1
theorem ranges_turned {H : Type} {w w' : World} {Q : Nat → Prop} {k : TypeId} {R : Value → Option (DataW H × List MemPlace)} {b r n : Nat} {D : DataW H} {left : Lit → Bool} {cnt : Nat} (h : w.ranges Tryz.prog k R b r n D left cnt) (ht : Turned Q w w') (hb : ¬ Q b) (hr : ¬ Q r) : w'.ranges Tryz.prog k R b r n D left cnt := by
  obtain ⟨es, clock, since, seen, c0, h1, h2, h3, h4, h5, h6⟩ := h
  have l1 : b < w.heap.size := (Array.getElem?_eq_some_iff.1 h1).1
  have l2 : r < w.heap.size := (Array.getElem?_eq_some_iff.1 h5).1
  exact ⟨es, clock, since, seen, c0, (ht.block b l1 hb).trans h1, h2, h3, h4, (ht.block r l2 hr).trans h5, h6⟩
/-- Flush's end: another map of what waits -/
theorem FlA.done {P : Nat → Prop} {w wr : World} {d lb wb rb cap r cnt : Nat} {C : Array Value} {D : DataW Value} {M : DskM} {left : Lit → Bool} (hp : DskP w P d lb wb rb cap C D M) (h : FlA w wr P lb wb rb r D M left cnt) (hl : ∀ k, left k = false) :
    DskAt ((wr.alloc (.map #[] 0)).setCell ⟨d, 1, none⟩ (.map (some wr.heap.size))) (Wide P w) d M.flush ∧ Turned P w ((wr.alloc (.map #[] 0)).setCell ⟨d, 1, none⟩ (.map (some wr.heap.size))) := by
  have hb := below_new wr (.map #[] 0)
  have hg := grown_set (wr.alloc (.map #[] 0)) ⟨d, 1, none⟩ (.map (some wr.heap.size))
  have hm : (wr.alloc (.map #[] 0)).ownsMap Tryz.prog 3 rawElem wr.heap.size 0 (.map []) := World.ownsMap_made (H := Value) wr Tryz.prog 3 rawElem
  have hdl := hp.dl
  have hdr := hp.dr
  have hbk : Bk wr d _ _ := hp.bk.turned h.turned (fun e => e.elim hdl hdr)
  obtain ⟨C1, hs⟩ := h.sec
  have hs2 : SecAt (wr.alloc (.map #[] 0)) P lb C1 _ := hs.turnS (Q := fun _ => False) (Turned.of_below hb) (fun _ h => h.elim) id
  have hr2 := h.rot.turned' (Turned.of_below (P := fun _ => False) hb) id
  have hbk2 := hbk.ext hb
  have hsz := h.turned.size
  have hlt := hp.bk.lt
  have hwz : wr.heap.size < (wr.alloc (.map #[] 0)).heap.size := by simp
  generalize wr.alloc (.map #[] 0) = W at hb hg hm hs2 hr2 hbk2 hwz ⊢
  have ht : Turned (fun b => b = d) W _ := Turned.of_grown hg (fun k e => (Option.some.inj e).symm)
  have hds : ∀ {u : Value} {l : List UInt8}, OwnB W 0 u l → ∀ g, u.ownBlock = some g → ¬ g = d := fun {u l} h1 g hg e => by
    rcases h1.2 with ⟨rfl, _⟩ | ⟨g', cap', cur, rfl, _, h3, _⟩
    · cases hg
    · have e2 : g' = g := Option.some.inj hg
      rw [e2, e] at h3
      unfold Bk at hbk2
      rw [hbk2] at h3
      injection h3 with h3
      injection h3 with _ h3
      exact absurd h3 (by decide)
  have hT : Turned P w wr := h.turned.more fun i _ e => by
    rcases e with rfl | rfl
    · exact hp.sec.own
    · exact hp.rot.own
  refine ⟨⟨lb, wr.heap.size, rb, cap, C1, .map [], ⟨hp.ok.flush, .inl hp.own, hbk2.put 1 _, hp.room, hp.big, ⟨hs2.bk.turned ht (fun e => hdl e.symm), .inl hs.own, fun i hi => ?_⟩, (map_turned hm ht (by omega)).mono (Nat.zero_le _), .inr hsz, WtAt.empty (fun _ => rfl), ?_, ?_⟩⟩, ?_⟩
  · obtain ⟨v, h1, h2, h3⟩ := hs2.at_ i hi
    have e : (M.puts fun j => !left (.int .i64 (j : Int))).sec i = M.flush.sec i := by
      show (if (!left (.int .i64 (i : Int))) = true then _ else _) = (if true = true then (M.wt i).getD (M.sec i) else M.sec i)
      rw [hl]
      rfl
    rw [e] at h2
    exact ⟨v, h1, h2.turnB ht (hds h2), fun g hg => .inl (h3 g hg)⟩
  · obtain ⟨⟨E, h1, h2⟩, h3⟩ := hr2
    exact ⟨⟨E, map_turned h1 ht (fun e => hdr e.symm), h2⟩, .inl h3⟩
  · have h1 := h.rot.lt
    omega
  · exact (hT.then_below hb).wide (ht.more fun i _ e => .inl (by rw [e]; exact hp.own))
set_option maxRecDepth 100000 in
set_option maxHeartbeats 4000000 in
theorem dskFlush_any {P : Nat → Prop} {d : Nat} {M : DskM} {w : World} (h : DskAt w P d M) :
    Calls Tryz.prog 143 #[.pointer (some ⟨d, 0, none⟩)] w fun e w' => ∃ v, e = .returned v ∧ ErrR 1 v (M.bad 0 false) ∧ DskAt w' (Wide P w) d (if M.bad 0 false = 0 then M.flush else M) ∧ Turned P w w' := by
  have HR := Lib.hid (dskRefused_any h ⟨#[100, 105, 115, 107, 46, 70, 108, 117, 115, 104]⟩ 0 false)
  have H0 := Lib.hid h
  have hmm := @run_makeMap Tryz.prog
  obtain ⟨lb, wb, rb, cap, C, D, hp⟩ := h
  by_cases hk : M.bad 0 false = 0
  · rw [if_pos hk]
    rw [hk] at HR ⊢
    have c1 : w.cell? ⟨d, 1, none⟩ = some (.map (some wb)) := hp.bk.cell 1
    have HP := Lib.hid hp
    clear hp hk H0
    go_enter Tryz.func143, Tryz.ntmps143
    go_wp2_with (first | (go_at_call 126; (with_reducible refine HR.out.mono ?_); rintro er w4 ⟨v4, rfl, he4, rfl⟩; obtain rfl := he4.of_nil; clear he4) | (at_range; go_loud (refine wpList_range_own _ rfl _ 179 rfl 3 26 key_intd2 Tryz.underlying179 rawElem wb 128 D rfl HP.out.map ?_); go_loud (intro w0 hrg0 hg0 hs0); have HRg := Lib.hid hrg0; have HGr := Lib.hid hg0; have HSs := Lib.hid hs0; clear hrg0 hg0 hs0) | fail)
    go_frame
    have hb0 : Below w4.heap.size w4 w0 := ⟨HGr.out.os, HGr.out.tape, HGr.out.output, HGr.out.size, fun i hi => HGr.out.block i hi (by simp)⟩
    have HF0 : Hid (FlA w4 w0 P lb wb rb w4.heap.size D M (Maps.has D) (Maps.size D)) := ⟨HRg.out, Turned.of_below hb0, ⟨C, by rw [puts_none (left := Maps.has D) HP.out.wts.hasE]; exact HP.out.sec.turnS (Q := fun _ => False) (Turned.of_below hb0) (fun _ h => h.elim) id⟩, HP.out.rot.turned' (Turned.of_below (P := fun _ => False) hb0) id⟩
    clear HRg HGr HSs hb0 c1
    obtain ⟨r, hr⟩ : ∃ r, r = w4.heap.size := ⟨_, rfl⟩
    rw [← hr] at HF0 ⊢
    have HRr := Lib.hid hr
    clear hr
    go_loopw [4] (fun _ wr => ∃ (left : Lit → Bool) (cnt : Nat), Hid (FlA w4 wr P lb wb rb r D M left cnt)) (fun _ wr => wr.rangeLeft wb r)
    case atStart => exact ⟨_, _, HF0⟩
    case round =>
      obtain ⟨left, cnt, hF⟩ := hrel
      clear HF0
      go_wp2_with (first | (at_next; go_loud (refine wpList_next_ranges _ rfl _ rfl 3 key_intd2 rawElem (Value.int .i64) id (fun key kl hkey => by obtain ⟨x, rfl, _⟩ := Maps.keyOf_int_inv Tryz.underlying3 hkey; exact ⟨x, rfl⟩) (fun v y _ => ⟨v, rfl⟩) wb r 128 _ left cnt rfl hF.out.rg ?_ ?_)) | fail)
      · intro hc0 hl0
        have HL0 := Lib.hid hl0
        clear hl0 hc0
        have hbk := HP.out.bk.turned hF.out.turned (fun e => e.elim HP.out.dl HP.out.dr)
        have hb1 := below_new wr (.map #[] 0)
        have e1 : (wr.alloc (.map #[] 0)).cell? ⟨d, 1, none⟩ = some (.map (some wb)) := (hbk.ext hb1).cell 1
        have e2 : (wr.alloc (.map #[] 0)).frozen? ⟨d, 1, none⟩ = false := (hbk.ext hb1).thaw 1
        clear hb1 hbk
        go_wp2_with fail
        go_ret
        have hdn := hF.out.done HP.out HL0.out
        exact ⟨_, rfl, .nil 1, hdn.1, hdn.2⟩
      · intro x c kl y yp w1 cnt1 hkey hlk hv hat hrg1 hlt hg1 hs1 hen
        obtain ⟨x', ex, rfl, hwx⟩ := Maps.keyOf_int_inv Tryz.underlying3 hkey
        cases ex
        have hhas : Maps.has D (.int .i64 x) = true := by
          by_cases h : Maps.has D (.int .i64 x) = true
          · exact h
          · have h1 := hat (.map [])
            have h2 := hat (.lit (.bool true))
            rw [atKey_of_not_has (by simpa using h)] at h1 h2
            rw [← h1] at h2
            cases h2
        obtain ⟨i, hxi, hin⟩ := HP.out.wts.keys _ hhas
        obtain rfl : x = (i : Int) := by injection hxi
        obtain ⟨b, hb⟩ : ∃ b, M.wt i = some b := by
          have h := HP.out.wts.hasE i
          rw [hhas] at h
          exact Option.isSome_iff_exists.1 h.symm
        have hT1 : Turned (fun b => b = lb ∨ b = rb) w4 w1 := hF.out.turned.then_grown hg1 (fun k e => .inr (by rw [← Option.some.inj e, HRr.out]; exact Nat.le_refl _))
        have hq : ∀ g, (g = lb ∨ g = rb) → Struc w4 g := fun g e => by
          rcases e with rfl | rfl
          · exact .inl ⟨_, HP.out.sec.bk⟩
          · exact .inr HP.out.rot.struc
        obtain ⟨C1, hs⟩ := hF.out.sec
        have hrl : r ≠ lb := fun e => by have h1 := HP.out.sec.bk.lt; have h2 := HRr.out; omega
        have hrr : r ≠ rb := fun e => by have h1 := HP.out.rot.lt; have h2 := HRr.out; omega
        have htr : Turned (fun b => b = r) wr w1 := Turned.of_grown hg1 (fun k e => (Option.some.inj e).symm)
        have hqr : ∀ {u : Value} {l : List UInt8}, OwnB wr 0 u l → ∀ g, u.ownBlock = some g → ¬ g = r := fun {u l} h1 g hg e => by
          obtain ⟨es, clock, since, seen, c0, _, _, _, _, h5, _⟩ := hF.out.rg
          rcases h1.2 with ⟨rfl, _⟩ | ⟨g', cap', cur, rfl, _, h3, _⟩
          · cases hg
          · have e2 : g' = g := Option.some.inj hg
            rw [e2, e, h5] at h3
            cases h3
        have hs1 : SecAt w1 P lb C1 (M.puts fun j => !left (.int .i64 (j : Int))) := ⟨hs.bk.turned htr (fun e => hrl e.symm), hs.own, fun j hj => by
          obtain ⟨v, h1, h2, h3⟩ := hs.at_ j hj
          exact ⟨v, h1, h2.turnB htr (hqr h2), h3⟩⟩
        have HK := Lib.hid (dskPut_any (HP.out.bk.turned hT1 (fun e => e.elim HP.out.dl HP.out.dr)) hs1 rfl hrg1.owns (HP.out.wts.turnS hT1 hq) (hF.out.rot.turned' htr (fun e => hrr e.symm)) HP.out.ok.few i hin hb)
        have HT1 := Lib.hid hT1
        have HRg1 := Lib.hid hrg1
        have HB := Lib.hid hb
        have HLt := Lib.hid hlt
        have hen' : (Instr.entry (.pointer (some ⟨r, 0, none⟩))).run Tryz.prog w1 = .ok (.tuple #[.int .i64 (i : Int), c]) w1 := hen
        clear hkey hlk hat hv hrg1 hlt hg1 hs1 hen hhas hb hT1 hq hs htr hwx
        go_wp2_with (first | (go_at_call 125; (with_reducible refine HK.out.mono ?_); rintro er w5 ⟨rfl, ht5, hs5, hr5⟩; have HT5 := Lib.hid ht5; have HS5 := Lib.hid hs5; have HR5 := Lib.hid hr5; clear ht5 hs5 hr5) | fail)
        have hwl : ¬ (wb = lb ∨ wb = rb) := fun e => e.elim (fun e => HP.out.sec.bk.notM e (by obtain ⟨es, clock, h2, _⟩ := HP.out.map; exact ⟨es, clock, h2⟩)) HP.out.ne
        have hrg2 := ranges_turned HRg1.out HT5.out hwl (fun e => e.elim hrl hrr)
        obtain ⟨C5, hs5⟩ := HS5.out
        rw [puts_step HB.out] at hs5
        exact ⟨⟨_, _, ⟨hrg2, HT1.out.trans HT5.out (fun _ _ e => e), ⟨C5, hs5⟩, HR5.out⟩⟩, by rw [hrg2.left_eq, hF.out.rg.left_eq]; exact HLt.out⟩
  · rw [if_neg hk]
    generalize M.bad 0 false = k at HR hk ⊢
    have HK := Lib.hid hk
    clear hp hk
    go_enter Tryz.func143, Tryz.ntmps143
    go_wp2_with (first | (go_at_call 126; (with_reducible refine HR.out.mono ?_); rintro er w4 ⟨v4, rfl, he4, rfl⟩; obtain ⟨ty, x, rfl⟩ := he4.iface HK.out; have HE := Lib.hid he4; clear he4) | fail)
    go_ret
    exact ⟨_, rfl, HE.out, H0.out.more (fun _ _ h => .inl h), Turned.refl _ _⟩
end Go.Proofs.YtkdlofgfkfhofaaGreatDoor

/-
  rack: Write, Flush, Read.
-/
namespace Go.Proofs.YtkdlofgfkfhofaaGreatDoor
open Go.RowKit Go.Maps

theorem RackM.may_zero {M M1 : RackM} {i : Int} {wrong : Bool} (h : M.may i wrong = (M1, 0)) : ∃ k : Nat, i = k ∧ k < M.n ∧ M1.n = M.n ∧ M1.d = M.d ∧ (M.d k).dead = false ∧ wrong = false := by
  unfold RackM.may at h
  split at h
  · cases h
  · rename_i h1
    have h1 : 0 ≤ i ∧ i < M.n := Classical.not_not.1 h1
    split at h
    · cases h
    · rename_i h2
      obtain ⟨_, h3⟩ := not_or.1 h2
      obtain ⟨k, rfl⟩ := Int.eq_ofNat_of_zero_le h1.1
      have hd : (M.d k).dead = false := by
        unfold RackM.up at h3
        rw [decide_eq_true h1.1, decide_eq_true h1.2, Int.toNat_natCast] at h3
        simpa using h3
      split at h
      · cases h
      · rename_i h4
        have h4 : wrong = false := by simpa using h4
        split at h
        · cases h
        · split at h
          · obtain ⟨rfl, _⟩ := Prod.mk.inj h
            exact ⟨k, rfl, by omega, rfl, rfl, hd, h4⟩
          · obtain ⟨rfl, _⟩ := Prod.mk.inj h
            exact ⟨k, rfl, by omega, rfl, rfl, hd, h4⟩
theorem DskM.bad_ok {M : DskM} {k : Nat} (h : M.dead = false) (hk : k < M.n) : M.bad (k : Int) false = 0 := by
  unfold DskM.bad
  rw [if_neg (by rw [h]; simp), if_neg (by simp; omega)]
/-- a disk's operation done to the rack -/
theorem RackP.did {w w' : World} {o : Nat → Option Nat} {r lb cap : Nat} {C : Array Value} {d : Nat → Nat} {M : RackM} (h : RackP w o r lb cap C d M) {i : Nat} (hi : i < M.n) {D : DskM} (ht : Turned (fun b => o b = some (i + 1)) w w') (hD : DskAt w' (Wide (fun b => o b = some (i + 1)) w) (d i) D) (hn : D.n = (M.d i).n) :
    RkPost w o r (M.set i D) w' :=
  ⟨ownD o i w w', ⟨lb, cap, C, d, h.set hi ht hD hn⟩, fun _ hb => if_pos hb, ht.more fun b _ e => by
    have e : o b = some (i + 1) := e
    rw [e]
    simp⟩
theorem RackAt.ok {w : World} {o : Nat → Option Nat} {r : Nat} {M : RackM} (h : RackAt w o r M) : M.Ok := by
  obtain ⟨_, _, _, _, h⟩ := h
  exact h.ok
theorem RkPost.via {w w1 w' : World} {o o1 : Nat → Option Nat} {r : Nat} {M' : RackM} (h1 : ∀ b, b < w.heap.size → o1 b = o b) (h2 : Turned (fun b => o b ≠ none) w w1) (h3 : RkPost w1 o1 r M' w') : RkPost w o r M' w' := by
  obtain ⟨o2, a1, a2, a3⟩ := h3
  exact ⟨o2, a1, fun b hb => (a2 b (Nat.lt_of_lt_of_le hb h2.size)).trans (h1 b hb), h2.trans a3 fun b hb ho => by rw [← h1 b hb]; exact ho⟩
set_option maxRecDepth 100000 in
set_option maxHeartbeats 4000000 in
theorem rackFlush_any {o : Nat → Option Nat} {r : Nat} {M : RackM} {w : World} (h : RackAt w o r M) (i : Int) {M' : RackM} {k : Int} (hM : M.flush i = (M', k)) :
    Calls Tryz.prog 96 #[.pointer (some ⟨r, 0, none⟩), .int .i64 i] w fun e w' => ∃ v, e = .returned v ∧ ErrR 2 v k ∧ RkPost w o r M' w' := by
  obtain ⟨M1, k1, hmay⟩ : ∃ M1 k1, M.may i false = (M1, k1) := ⟨_, _, rfl⟩
  unfold RackM.flush at hM
  rw [hmay] at hM
  dsimp only at hM
  have HMay := Lib.hid (rackMay_any h i false hmay)
  by_cases hk : k1 = 0
  · subst hk
    rw [if_pos rfl] at hM
    obtain ⟨rfl, rfl⟩ := Prod.mk.inj hM
    obtain ⟨j, rfl, hj, hn1, hd1, hdead, _⟩ := RackM.may_zero hmay
    rw [Int.toNat_natCast]
    have HH := Lib.hid h
    have hj1 : j < M1.n := by omega
    have hi : (j : Int) < M1.n := by omega
    have hb1 : (M1.d j).bad 0 false = 0 := by
      have h1 := h.ok.d j hj
      rw [hd1]
      exact DskM.bad_ok (k := 0) hdead h1.pos
    have HB1 := Lib.hid hb1
    have hq1 : M.flush (j : Int) = M.flush (j : Int) := rfl
    clear hM hmay h hn1 hd1 hdead hb1 hq1
    go_enter Tryz.func96, Tryz.ntmps96
    go_wp2_with (first | (go_at_call 141; go_loud ((with_reducible refine HMay.out.mono ?_); rintro er w4 ⟨rfl, hp4⟩; have HP4 := Lib.hid hp4; obtain ⟨o1, ⟨lb, cap, C, d, hp1⟩, ho1, ht1⟩ := hp4; have c0 : w4.cell? ⟨r, 0, none⟩ = some (.slice (some ⟨lb, 0, none⟩) M1.n cap) := hp1.bk.cell 0; have c1 : w4.cell? ⟨lb, j, none⟩ = some (.pointer (some ⟨d j, 0, none⟩)) := (hp1.row.cell j).trans (hp1.at_ j hj1).1; have hf := dskFlush_any (hp1.at_ j hj1).2; rw [HB1.out, if_pos rfl] at hf; have HF := Lib.hid hf; have HP1 := Lib.hid hp1; have HO1 := Lib.hid ho1; have HT1 := Lib.hid ht1; clear hp1 ho1 ht1 hf)) | (go_at_call 143; go_loud ((with_reducible refine HF.out.mono ?_); rintro er w5 ⟨v5, rfl, he5, hd5, ht5⟩; obtain rfl := he5.of_nil; have HD5 := Lib.hid hd5; have HT5 := Lib.hid ht5; clear he5 hd5 ht5)) | (go_at_call 39; go_loud ((with_reducible refine (wrapR (ErrR.nil 1) _ _ _).mono ?_); rintro er w6 ⟨v6, rfl, he6, rfl⟩; have HE6 := Lib.hid he6; clear he6)) | fail)
    go_ret
    exact ⟨_, rfl, HE6.out, RkPost.via HO1.out HT1.out (HP1.out.did hj1 HT5.out HD5.out rfl)⟩
  · rw [if_neg hk] at hM
    obtain ⟨rfl, rfl⟩ := Prod.mk.inj hM
    have HW : Hid (∀ w, Calls Tryz.prog 39 #[.string ⟨#[114, 97, 99, 107, 46, 70, 108, 117, 115, 104]⟩, .int .i64 i, .iface 40 (.int .i64 k1)] w fun e w' => ∃ v', e = .returned v' ∧ ErrR (0 + 1) v' k1 ∧ w' = w) := fun w => wrapR (ErrR.no hk 0) _ i w
    have hk0 : (k1 == 0) = false := by simp [hk]
    clear hM hmay h hk
    go_enter Tryz.func96, Tryz.ntmps96
    go_wp2_with (first | (go_at_call 141; (with_reducible refine HMay.out.mono ?_); rintro er w4 ⟨rfl, hp4⟩; have HP4 := Lib.hid hp4; clear hp4) | (go_at_call 39; go_loud ((with_reducible refine (HW.out _).mono ?_); rintro er w5 ⟨v5, rfl, he5, rfl⟩)) | fail)
    go_ret
    exact ⟨_, rfl, he5.more (by decide), HP4.out⟩
set_option maxRecDepth 100000 in
set_option maxHeartbeats 4000000 in
theorem rackWrite_any {o : Nat → Option Nat} {r : Nat} {M : RackM} {w : World} (h : RackAt w o r M) (i s : Int) (A : Option Addr) (n c : Nat) (l : List UInt8) (hr : RdB w A n c l) (hA : ∀ ad, A = some ad → o ad.block = none) {M' : RackM} {k : Int} (hM : M.write i s l = (M', k)) :
    Calls Tryz.prog 95 #[.pointer (some ⟨r, 0, none⟩), .int .i64 i, .int .i64 s, .slice A n c] w fun e w' => ∃ v, e = .returned v ∧ ErrR 2 v k ∧ RkPost w o r M' w' := by
  obtain ⟨wrong, hwr⟩ : ∃ wrong, decide (s < 0 ∨ M.sectors ≤ s ∨ l.length ≠ 128) = wrong := ⟨_, rfl⟩
  obtain ⟨M1, k1, hmay⟩ : ∃ M1 k1, M.may i wrong = (M1, k1) := ⟨_, _, rfl⟩
  unfold RackM.write at hM
  rw [hwr, hmay] at hM
  dsimp only at hM
  have HMay := Lib.hid (rackMay_any h i wrong hmay)
  have HSec := Lib.hid (rackSectors_any h)
  have hlen := hr.len
  have hcase : (s < 0 ∧ wrong = true) ∨ (¬ s < 0 ∧ (M.sectors : Int) ≤ s ∧ wrong = true) ∨ (¬ s < 0 ∧ decide ((M.sectors : Int) ≤ s) = false ∧ ((n : Int) != 128) = wrong) := by
    by_cases h1 : s < 0
    · exact .inl ⟨h1, by rw [← hwr]; exact decide_eq_true (.inl h1)⟩
    · by_cases h2 : (M.sectors : Int) ≤ s
      · exact .inr (.inl ⟨h1, h2, by rw [← hwr]; exact decide_eq_true (.inr (.inl h2))⟩)
      · refine .inr (.inr ⟨h1, decide_eq_false h2, ?_⟩)
        rw [← hwr, hlen]
        by_cases e : n = 128
        · subst e
          rw [decide_eq_false (by simp [h1, h2])]
          rfl
        · rw [decide_eq_true (.inr (.inr e)), bne_iff_ne]
          omega
  by_cases hk : k1 = 0
  · subst hk
    rw [if_pos rfl] at hM
    obtain ⟨rfl, rfl⟩ := Prod.mk.inj hM
    obtain ⟨j, rfl, hj, hn1, hd1, hdead, hwf⟩ := RackM.may_zero hmay
    subst hwf
    rcases hcase with ⟨_, h⟩ | ⟨_, _, h⟩ | ⟨s0, s1, hq⟩
    · cases h
    · cases h
    · rw [Int.toNat_natCast]
      obtain ⟨t, rfl⟩ := Int.eq_ofNat_of_zero_le (by omega : 0 ≤ s)
      have hj1 : j < M1.n := by omega
      have hi : (j : Int) < M1.n := by omega
      have hl128 : l.length = 128 := by
        have := of_decide_eq_false hwr
        exact Classical.not_not.1 fun h => this (.inr (.inr h))
      have hb1 : (M1.d j).bad (t : Int) (decide (l.length ≠ 128)) = 0 := by
        rw [decide_eq_false (by rw [hl128]; simp), hd1]
        refine DskM.bad_ok (k := t) hdead ?_
        have h1 := h.ok.same j hj
        have h2 : (M.d 0).n = M.sectors := rfl
        have h3 := of_decide_eq_false s1
        omega
      have s2 : ¬ M.sectors ≤ t := by have := of_decide_eq_false s1; omega
      clear s1
      have HB1 := Lib.hid hb1
      have HR := Lib.hid hr
      have HA := Lib.hid hA
      clear hM hmay h hn1 hd1 hdead hb1 hwr hlen hr hA hl128
      go_enter Tryz.func95, Tryz.ntmps95
      go_wp2_with (first | (go_at_call 94; (with_reducible refine HSec.out.mono ?_); rintro er w3 ⟨rfl, rfl⟩) | (go_at_call 141; go_loud ((with_reducible refine HMay.out.mono ?_); rintro er w4 ⟨rfl, hp4⟩; obtain ⟨o1, ⟨lb, cap, C, d, hp1⟩, ho1, ht1⟩ := hp4; have c0 : w4.cell? ⟨r, 0, none⟩ = some (.slice (some ⟨lb, 0, none⟩) M1.n cap) := hp1.bk.cell 0; have c1 : w4.cell? ⟨lb, j, none⟩ = some (.pointer (some ⟨d j, 0, none⟩)) := (hp1.row.cell j).trans (hp1.at_ j hj1).1; have hf := dskWrite_any (hp1.at_ j hj1).2 (t : Int) A n c l (HR.out.turned ht1 (fun ad e h => h (HA.out ad e))); rw [HB1.out, if_pos rfl, Int.toNat_natCast] at hf; have HF := Lib.hid hf; have HP1 := Lib.hid hp1; have HO1 := Lib.hid ho1; have HT1 := Lib.hid ht1; clear hp1 ho1 ht1 hf)) | (go_at_call 142; go_loud ((with_reducible refine HF.out.mono ?_); rintro er w5 ⟨v5, rfl, he5, hd5, ht5⟩; obtain rfl := he5.of_nil; have HD5 := Lib.hid hd5; have HT5 := Lib.hid ht5; clear he5 hd5 ht5)) | (go_at_call 39; go_loud ((with_reducible refine (wrapR (ErrR.nil 1) _ _ _).mono ?_); rintro er w6 ⟨v6, rfl, he6, rfl⟩; have HE6 := Lib.hid he6; clear he6)) | fail)
      go_ret
      exact ⟨_, rfl, HE6.out, RkPost.via HO1.out HT1.out (HP1.out.did hj1 HT5.out HD5.out rfl)⟩
  · rw [if_neg hk] at hM
    obtain ⟨rfl, rfl⟩ := Prod.mk.inj hM
    have HW : Hid (∀ w, Calls Tryz.prog 39 #[.string ⟨#[114, 97, 99, 107, 46, 87, 114, 105, 116, 101]⟩, .int .i64 i, .iface 40 (.int .i64 k1)] w fun e w' => ∃ v', e = .returned v' ∧ ErrR (0 + 1) v' k1 ∧ w' = w) := fun w => wrapR (ErrR.no hk 0) _ i w
    have hk0 : (k1 == 0) = false := by simp [hk]
    clear hM hmay h hk hwr hlen hr hA
    rcases hcase with ⟨s0, rfl⟩ | ⟨s0, s1, rfl⟩ | ⟨s0, s1, hq⟩
    all_goals
      go_enter Tryz.func95, Tryz.ntmps95
      go_wp2_with (first | (go_at_call 94; (with_reducible refine HSec.out.mono ?_); rintro er w3 ⟨rfl, rfl⟩) | (go_at_call 141; go_loud ((with_reducible refine HMay.out.mono ?_); rintro er w4 ⟨rfl, hp4⟩; have HP4 := Lib.hid hp4; clear hp4)) | (go_at_call 39; go_loud ((with_reducible refine (HW.out _).mono ?_); rintro er w5 ⟨v5, rfl, he5, rfl⟩)) | fail)
      go_ret
      exact ⟨_, rfl, he5.more (by decide), HP4.out⟩
end Go.Proofs.YtkdlofgfkfhofaaGreatDoor
