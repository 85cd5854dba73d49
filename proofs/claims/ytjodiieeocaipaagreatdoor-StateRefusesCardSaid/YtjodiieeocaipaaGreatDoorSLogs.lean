import Derived.Test.YtjodiieeocaipaaGreatDoorSIdxs
import Derived.Test.YtjodiieeocaipaaGreatDoorEWrap
import Derived.Deep.RegionHeld3
/-
  plog: New, within, Add, Trim, Start, Next, Len.
-/
namespace Go.Proofs.YtjodiieeocaipaaGreatDoor
open Go.RowKit Go.Maps

theorem IdxAt.but {w : World} {P : Nat → Prop} {ib lb : Nat} {l : List Hd} {t : TypeId} {cs : Array Value} (h : IdxAt w P ib l) (hb : Bk w lb t cs) (h1 : t ≠ 136) (h2 : t ≠ 95) (h3 : t ≠ 3) : IdxAt w (fun i => P i ∧ i ≠ lb) ib l := by
  obtain ⟨⟨hv, mv, a1, a2, a3, a4, a5⟩, a6⟩ := h
  refine ⟨⟨hv, mv, a1, a2, a3, fun g e => ⟨a4 g e, fun e2 => ?_⟩, fun g e => ⟨a5 g e, fun e2 => ?_⟩⟩, a6, fun e => ?_⟩
  · exact own_ne hb a2 h2 (by rw [e, e2])
  · exact own_ne hb a3 h3 (by rw [e, e2])
  · subst e
    unfold Bk at hb a1
    rw [hb] at a1
    injection a1 with a1
    injection a1 with _ a1
    exact h1 a1
theorem LogAt.ext {w w' : World} {P : Nat → Prop} {lb : Nat} {L : LogM} (h : LogAt w P lb L) (hb : Below w.heap.size w w') : LogAt w' P lb L := h.turned (Q := fun _ => False) (Turned.of_below hb) (fun _ _ _ => id)
set_option maxRecDepth 100000 in
theorem pwithin_any (n m : Int) (w : World) : Calls Tryz.prog 82 #[.int .i64 n, .int .i64 m] w fun e w' => e = .returned (.bool (decide (0 ≤ n) && decide (n ≤ m))) ∧ w = w' := by
  by_cases h1 : 0 ≤ n
  · have q1 : decide (0 ≤ n) = true := decide_eq_true h1
    rw [q1]
    go_enter Tryz.func82, Tryz.ntmps82
    go_wp2
    go_ret
    exact ⟨ret_bool (by simp), rfl⟩
  · have q1 : decide (0 ≤ n) = false := decide_eq_false h1
    rw [q1]
    go_enter Tryz.func82, Tryz.ntmps82
    go_wp2
    go_ret
    exact ⟨rfl, rfl⟩
set_option maxRecDepth 100000 in
theorem logNew_any (first : Int) (h : 0 ≤ first) (w : World) :
    Calls Tryz.prog 79 #[.int .i64 first] w fun e w' => ∃ lb, e = .returned (.tuple #[.pointer (some ⟨lb, 0, none⟩), .nilIface]) ∧ LogAt w' (fun i => w.heap.size ≤ i) lb (newLog first) ∧ Below w.heap.size w w' := by
  have h0 : ¬ first < 0 := by omega
  have HN := Lib.hid (idxNew_any w)
  clear h
  go_enter Tryz.func79, Tryz.ntmps79
  go_wp2_with fail
  with_reducible refine HN.out.mono ?_
  rintro er w1 ⟨rfl, hi, hb⟩
  have HI := Lib.hid hi
  have HB := Lib.hid hb
  have hk := Lib.hid (Bk.made w1 81 #[.pointer (some ⟨w.heap.size, 0, none⟩), .int .i64 first, .int .i64 first])
  have hn := Lib.hid (below_new w1 (.cells #[.pointer (some ⟨w.heap.size, 0, none⟩), .int .i64 first, .int .i64 first] 81))
  clear hi hb HN
  go_wp2_with fail
  go_ret2
  exact ⟨w1.heap.size, rfl, ⟨⟨_, hk.out, HI.out.ext hn.out⟩, HB.out.size⟩, HB.out.trans (below_le HB.out.size hn.out)⟩
set_option maxRecDepth 100000 in
theorem logStart_any {P : Nat → Prop} {lb : Nat} {L : LogM} {w : World} (h : LogAt w P lb L) :
    Calls Tryz.prog 20 #[.pointer (some ⟨lb, 0, none⟩)] w fun e w' => e = .returned (.int .i64 L.start) ∧ w = w' := by
  obtain ⟨⟨ib, hb, hi⟩, hp⟩ := h
  have c1 := hb.cell 1
  have c1 : w.cell? ⟨lb, 1, none⟩ = some (.int .i64 L.start) := c1
  clear hb hi
  go_enter Tryz.func20, Tryz.ntmps20
  go_wp2
  go_ret
  exact ⟨rfl, rfl⟩
set_option maxRecDepth 100000 in
theorem logNext_any {P : Nat → Prop} {lb : Nat} {L : LogM} {w : World} (h : LogAt w P lb L) :
    Calls Tryz.prog 18 #[.pointer (some ⟨lb, 0, none⟩)] w fun e w' => e = .returned (.int .i64 L.next) ∧ w = w' := by
  obtain ⟨⟨ib, hb, hi⟩, hp⟩ := h
  have c1 := hb.cell 2
  have c1 : w.cell? ⟨lb, 2, none⟩ = some (.int .i64 L.next) := c1
  clear hb hi
  go_enter Tryz.func18, Tryz.ntmps18
  go_wp2
  go_ret
  exact ⟨rfl, rfl⟩
set_option maxRecDepth 100000 in
theorem logLen_any {P : Nat → Prop} {lb : Nat} {L : LogM} {w : World} (h : LogAt w P lb L) :
    Calls Tryz.prog 19 #[.pointer (some ⟨lb, 0, none⟩)] w fun e w' => e = .returned (.int .i64 L.heads.length) ∧ w = w' := by
  obtain ⟨⟨ib, hb, hi⟩, hp⟩ := h
  have c0 := hb.cell 0
  have c0 : w.cell? ⟨lb, 0, none⟩ = some (.pointer (some ⟨ib, 0, none⟩)) := c0
  have HL := Lib.hid (idxLen_any P ib L.heads w hi)
  clear hb hi
  go_enter Tryz.func19, Tryz.ntmps19
  go_wp2_with fail
  with_reducible refine HL.out.mono ?_
  rintro er w1 ⟨rfl, rfl⟩
  go_wp2_with fail
  go_ret
  exact ⟨rfl, rfl⟩
set_option maxRecDepth 100000 in
set_option maxHeartbeats 1000000 in
theorem logAdd_any {P : Nat → Prop} {lb : Nat} {L : LogM} {N : Nat} {w : World} (h : LogAt w P lb L) (hok : L.Ok N) (hN : N ≤ 1000000) (n time stripe ent : Int) (ha : addOk n time stripe ent = true) :
    Calls Tryz.prog 85 #[.pointer (some ⟨lb, 0, none⟩), .int .i64 n, .int .i64 time, .int .i64 stripe, .int .i64 ent] w fun e w' => ∃ (base : Int) (v : Value), e = .returned (.tuple #[.int .i64 base, v]) ∧
      ((addBad L n time stripe ent = 0 ∧ base = L.next ∧ v = .nilIface ∧ LogAt w' (Wide P w) lb (addLog L n time stripe ent)) ∨ (addBad L n time stripe ent = 13 ∧ IsErr 1 v 13 ∧ LogAt w' (Wide P w) lb L)) ∧ Turned P w w' := by
  have hpl := h
  obtain ⟨⟨ib, hb, hi⟩, hp⟩ := h
  have ho := ha
  unfold addOk at ho
  simp only [Bool.and_eq_true, decide_eq_true_eq] at ho
  obtain ⟨⟨⟨⟨⟨o1, o2⟩, o3⟩, o4⟩, o5⟩, o6⟩ := ho
  have n1 : ¬ n < 1 := by omega
  have n2 : ¬ 8 < n := by omega
  have n3 : ¬ stripe < 0 := by omega
  have n4 : ¬ ent < 0 := by omega
  have c0 : w.cell? ⟨lb, 0, none⟩ = some (.pointer (some ⟨ib, 0, none⟩)) := hb.cell 0
  have c2 : w.cell? ⟨lb, 2, none⟩ = some (.int .i64 L.next) := hb.cell 2
  have hbig := hok.big
  have hst := hok.start0
  have hle := hok.le
  have HW := Lib.hid (pwithin_any time 1125899906842624 w)
  rw [decide_eq_true o3, decide_eq_true o4] at HW
  unfold maxI at hbig
  have w1 : IntKind.i64.wrap (9223372036854775807 - L.next) = 9223372036854775807 - L.next := by rw [IntKind.wrap_i64]; omega
  have w1' : wrap64 (9223372036854775807 - L.next) = 9223372036854775807 - L.next := IntWalk.wrap64_in _ ⟨by omega, by omega⟩
  have hbd : addBad L n time stripe ent = if 9223372036854775807 - L.next < n then 13 else 0 := by
    unfold addBad
    rw [ha, if_neg (by decide)]
    rfl
  by_cases hov : 9223372036854775807 - L.next < n
  · rw [if_pos hov] at hbd
    have Hbd := Lib.hid hbd
    have Hpl := Lib.hid hpl
    clear hbd hpl hb hi o1 o2 o3 o4 o5 o6 ha hok hbig hst hle
    go_enter Tryz.func85, Tryz.ntmps85
    go_wp2_with fail
    with_reducible refine HW.out.mono ?_
    rintro er w2 ⟨rfl, rfl⟩
    go_wp2_with (first | (go_at_call 26; refine (wrap_err (.no 13) _ _ _).mono ?_; rintro er w4 ⟨v4, rfl, he4, rfl⟩) | fail)
    go_ret2
    exact ⟨0, v4, rfl, .inr ⟨Hbd.out, he4, Hpl.out.more (fun i _ hq => .inl hq)⟩, Turned.refl _ _⟩
  · rw [if_neg hov] at hbd
    have Hbd := Lib.hid hbd
    have HB := Lib.hid hb
    have w2 : wrap64 (L.next + n) = L.next + n := IntWalk.wrap64_in _ ⟨by omega, by omega⟩
    have HA := Lib.hid (idxAdd_any _ ib L.heads ⟨L.next, n, time, stripe, ent⟩ w (hi.but hb (by decide) (by decide) (by decide)) (Nat.le_trans hok.few hN))
    clear hbd hpl hb hi o1 o2 o3 o4 o5 o6 ha hok hbig hst hle
    go_enter Tryz.func85, Tryz.ntmps85
    go_wp2_with fail
    with_reducible refine HW.out.mono ?_
    rintro er w2 ⟨rfl, rfl⟩
    go_wp2_with fail
    with_reducible refine HA.out.mono ?_
    rintro er w3 ⟨rfl, hi3, ht3⟩
    have hk3 := HB.out.turned ht3 (fun hx => hx.2 rfl)
    have d2 : w3.cell? ⟨lb, 2, none⟩ = some (.int .i64 L.next) := hk3.cell 2
    have f2 := hk3.thaw 2
    have HI3 := Lib.hid hi3
    have HT3 := Lib.hid ht3
    have HK3 := Lib.hid hk3
    clear hi3 ht3 hk3 HA
    go_wp2_with fail
    go_ret2
    have hg := grown_set w3 ⟨lb, 2, none⟩ (.int .i64 (L.next + n))
    have hT : Turned P w (w3.setCell ⟨lb, 2, none⟩ (.int .i64 (L.next + n))) := (HT3.out.more (fun i _ hq => hq.1)).then_grown hg (fun j e => .inl (by rw [← Option.some.inj e]; exact hp))
    refine ⟨L.next, .nilIface, rfl, .inl ⟨Hbd.out, rfl, rfl, ⟨⟨ib, HK3.out.put 2 (.int .i64 (L.next + n)), ?_⟩, .inl hp⟩⟩, hT⟩
    have hi4 := HI3.out.turned (Turned.of_grown (P := fun i => i = lb) hg (fun j e => (Option.some.inj e).symm)) (fun i hi hq => fun e => by
      rcases hq with hq | hq
      · exact hq.2 e
      · have := HB.out.lt
        subst e
        omega)
    exact hi4.more (fun i _ hq => hq.elim (fun x => .inl x.1) .inr)
end Go.Proofs.YtjodiieeocaipaaGreatDoor

/-
  plog: Trim.
-/
namespace Go.Proofs.YtjodiieeocaipaaGreatDoor
open Go.RowKit Go.Maps

set_option maxRecDepth 100000 in
set_option maxHeartbeats 1000000 in
theorem logTrim_any {P : Nat → Prop} {lb : Nat} {L : LogM} {N : Nat} {w : World} (h : LogAt w P lb L) (hok : L.Ok N) (hN : N ≤ 1000000) (off : Int) (ho : 0 ≤ off ∧ off ≤ maxI) :
    Calls Tryz.prog 53 #[.pointer (some ⟨lb, 0, none⟩), .int .i64 off] w fun e w' => ∃ (v : Value), e = .returned v ∧
      ((trimBad L off = 0 ∧ v = .nilIface ∧ LogAt w' (Wide P w) lb (trimLog L off)) ∨ (trimBad L off = 13 ∧ IsErr 1 v 13 ∧ LogAt w' (Wide P w) lb L)) ∧ Turned P w w' := by
  have hpl := h
  obtain ⟨⟨ib, hb, hi⟩, hp⟩ := h
  have c0 : w.cell? ⟨lb, 0, none⟩ = some (.pointer (some ⟨ib, 0, none⟩)) := hb.cell 0
  have c1 : w.cell? ⟨lb, 1, none⟩ = some (.int .i64 L.start) := hb.cell 1
  have c2 : w.cell? ⟨lb, 2, none⟩ = some (.int .i64 L.next) := hb.cell 2
  have HW := Lib.hid (pwithin_any off L.next w)
  rw [decide_eq_true ho.1, Bool.true_and] at HW
  by_cases hov : off ≤ L.next
  case' neg =>
    have hbd : trimBad L off = 13 := by unfold trimBad; rw [if_neg (fun h => hov h.2)]
    rw [decide_eq_false hov] at HW
    have Hbd := Lib.hid hbd
    have Hpl := Lib.hid hpl
    clear hbd hpl hb hi hok hov
    go_enter Tryz.func53, Tryz.ntmps53
    go_wp2_with fail
    with_reducible refine HW.out.mono ?_
    rintro er w2 ⟨rfl, rfl⟩
    go_wp2_with (first | (go_at_call 26; refine (wrap_err (.no 13) _ _ _).mono ?_; rintro er w4 ⟨v4, rfl, he4, rfl⟩) | fail)
    go_ret
    exact ⟨v4, rfl, .inr ⟨Hbd.out, he4, Hpl.out.more (fun i _ hq => .inl hq)⟩, Turned.refl _ _⟩
  case' pos =>
    have hbd : trimBad L off = 0 := by unfold trimBad; rw [if_pos ⟨ho.1, hov⟩]
    rw [decide_eq_true hov] at HW
    have Hbd := Lib.hid hbd
    have Hpl := Lib.hid hpl
    by_cases hs : L.start < off
    case' neg =>
      have hsd : decide (L.start < off) = false := decide_eq_false hs
      have htl : Hid (trimLog L off = L) := by show trimLog L off = L; unfold trimLog; rw [if_neg hs]
      clear hbd hpl hb hi hok hov hs
      go_enter Tryz.func53, Tryz.ntmps53
      go_wp2_with fail
      with_reducible refine HW.out.mono ?_
      rintro er w2 ⟨rfl, rfl⟩
      go_wp2_with fail
      go_ret
      exact ⟨.nilIface, rfl, .inl ⟨Hbd.out, rfl, by rw [htl.out]; exact Hpl.out.more (fun i _ hq => .inl hq)⟩, Turned.refl _ _⟩
    case' pos =>
      have hsd : decide (L.start < off) = true := decide_eq_true hs
      have htl : Hid (trimLog L off = ⟨off, L.next, L.heads.drop (seekM L.heads off)⟩) := by show trimLog L off = _; unfold trimLog; rw [if_pos hs]
      have f1 := hb.thaw 1
      have hib := hi.but hb (by decide) (by decide) (by decide)
      have hg1 := grown_set w ⟨lb, 1, none⟩ (.int .i64 off)
      have HK1 := Lib.hid (hb.put 1 (.int .i64 off))
      have HI1 := Lib.hid (hib.turned (Turned.of_grown (P := fun i => i = lb) hg1 (fun j e => (Option.some.inj e).symm)) (fun i hi hq => hq.2))
      have HT1 := Lib.hid (Turned.of_grown (P := P) hg1 (fun j e => by rw [← Option.some.inj e]; exact hp))
      have HO := Lib.hid hok
      clear hbd hpl hb hi hok hov hs hib hg1
      go_enter Tryz.func53, Tryz.ntmps53
      go_wp2_with fail
      with_reducible refine HW.out.mono ?_
      rintro er w2 ⟨rfl, rfl⟩
      clear HW
      go_upto_region 5 with fail
      clear f1 c0 c1 c2 hsd
      generalize w.setCell ⟨lb, 1, none⟩ (.int .i64 off) = W at HK1 HI1 HT1 ⊢
      have hkl : seekM L.heads off ≤ L.heads.length := List.findIdx_le_length
      have HSk : Hid (∀ w', Below W.heap.size W w' → Calls Tryz.prog 69 #[.pointer (some ⟨ib, 0, none⟩), .int .i64 off] w' fun e w'' => e = .returned (.int .i64 (seekM L.heads off)) ∧ Below w'.heap.size w' w'') := fun w' hb => idxSeek_any _ ib N L off w' (HI1.out.ext hb) HO.out hN ho
      have HDr : Hid (∀ w', Below W.heap.size W w' → Calls Tryz.prog 83 #[.pointer (some ⟨ib, 0, none⟩), .int .i64 (seekM L.heads off)] w' fun e w'' => e = .returned (.tuple #[]) ∧ IdxAt w'' (Wide (fun i => P i ∧ i ≠ lb) w') ib (L.heads.drop (seekM L.heads off)) ∧ Turned (fun i => P i ∧ i ≠ lb) w' w'') := fun w' hb => idxDrop_any _ ib L.heads _ w' (HI1.out.ext hb) (Nat.le_trans HO.out.few hN) hkl
      have FS : Hid (∀ w', Turned (fun i => P i ∧ i ≠ lb) W w' → (Turned (fun i => P i ∧ i ≠ lb) W w' ∧ w'.cell? ⟨lb, 0, none⟩ = some (.pointer (some ⟨ib, 0, none⟩)))) := fun w' ht => ⟨ht, (HK1.out.turned ht (fun hx => hx.2 rfl)).cell 0⟩
      have r0 := below_drew1 (Below.refl W.heap.size W)
      clear hkl
      go_region_held3 (fun w' => Turned (fun i => P i ∧ i ≠ lb) W w' ∧ w'.cell? ⟨lb, 0, none⟩ = some (.pointer (some ⟨ib, 0, none⟩))) (first | exact FS.out _ (Turned.of_below r0) | exact FS.out _ (Turned.of_below q3) | exact FS.out _ ((Turned.of_below q3).wide (ht4.more (fun i _ hq => .inl hq)))) (first | (go_at_call 69; go_loud (with_reducible refine (HSk.out _ r0).mono ?_); go_loud (rintro er w3 ⟨rfl, hb3⟩); go_loud (have q3 : Below W.heap.size W w3 := r0.trans (below_le r0.size hb3))) | (go_at_call 83; go_loud (with_reducible refine (HDr.out _ q3).mono ?_); go_loud (rintro er w4 ⟨rfl, hi4, ht4⟩)) | fail)
      all_goals
        have hT4 : Turned (fun i => P i ∧ i ≠ lb) W w4 := (Turned.of_below q3).wide (ht4.more (fun i _ hq => .inl hq))
        have hk4 := HK1.out.turned hT4 (fun hx => hx.2 rfl)
        have HR : Hid (LogAt w4 (Wide P w) lb (trimLog L off) ∧ Turned P w w4) := by
          refine ⟨?_, HT1.out.trans hT4 (fun i _ hq => hq.1)⟩
          rw [htl.out]
          exact ⟨⟨ib, hk4, hi4.more (fun i _ hq => hq.elim (fun x => .inl x.1) (fun x => .inr (Nat.le_trans (Nat.le_trans HT1.out.size q3.size) x)))⟩, .inl hp⟩
        clear hT4 hk4 hi4 ht4
        go_wp2_with fail
        go_ret
        exact ⟨.nilIface, rfl, .inl ⟨Hbd.out, rfl, HR.out.1⟩, HR.out.2⟩
end Go.Proofs.YtjodiieeocaipaaGreatDoor
