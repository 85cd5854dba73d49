import Derived.Test.YtjodiieeocaipaaGreatDoorSMem
import Derived.Test.YtjodiieeocaipaaGreatDoorEWrap
import Derived.Test.YtjodiieeocaipaaGreatDoorEVal
import Derived.Maps.OwnSet
import Derived.Deep.CutRange
import Derived.StillTailTactics
import Derived.Test.YtjodiieeocaipaaGreatDoorSTop
/-
  dedup: New, Ask, Note.
-/
namespace Go.Proofs.YtjodiieeocaipaaGreatDoor
open Go.RowKit Go.Maps

def ldS (v : Value) : Sem Value := Instr.loadAt 145 v
theorem ldS_eq (v : Value) : Instr.loadAt 145 v = ldS v := rfl
def stS (v u : Value) : Sem Unit := Instr.storeAt 145 v u
theorem stS_eq (v u : Value) : Instr.storeAt 145 v u = stS v u := rfl
theorem size_st : (Tryz.prog.info? 145).map (·.size) = some 3 := by kernel_rfl
theorem ldS_bk {w : World} {G : Nat} {a b c : Int} (hb : Bk w G 145 #[.int .i64 a, .int .i64 b, .int .i64 c]) : (ldS (.pointer (some ⟨G, 0, none⟩))).run Tryz.prog w = .ok (.agg #[.int .i64 a, .int .i64 b, .int .i64 c]) w := by
  unfold ldS
  simp only [Instr.loadAt, Instr.sureAddr, Sem.run_bind, Sem.run_pure, Result.andThen_ok, run_loadVar_row w G _ _ _ (0, 0) _ hb Tryz.underlying145 rfl size_st]
theorem stS_row {w : World} {G : Nat} {old : Array Value} (h : Bk w G 145 old) (ho : old.size = 3) (a b c : Int) :
    (stS (.pointer (some ⟨G, 0, none⟩)) (.agg #[.int .i64 a, .int .i64 b, .int .i64 c])).run Tryz.prog w = .ok () (w.setRow G #[.int .i64 a, .int .i64 b, .int .i64 c]) := by
  unfold stS
  simp only [Instr.storeAt, Instr.sureAddr, Sem.run_bind, Sem.run_pure, Result.andThen_ok, run_storeVar_row w G _ _ old #[.int .i64 a, .int .i64 b, .int .i64 c] h size_st (by rw [ho]; rfl) (all_oneCell_toArray (one_all rfl))]
theorem stS_new (w : World) (a b c : Int) : (stS (.pointer (some ⟨w.heap.size, 0, none⟩)) (.agg #[.int .i64 a, .int .i64 b, .int .i64 c])).run Tryz.prog (w.alloc (.cells #[.int .i64 0, .int .i64 0, .int .i64 0] 145)) = .ok () (w.alloc (.cells #[.int .i64 a, .int .i64 b, .int .i64 c] 145)) :=
  run_storeAt_new w 145 _ _ size_st rfl (all_oneCell_toArray (one_all rfl))
theorem results_cell_tmp2 {fn : Func} {p u v : Tmp} {ty : TypeId} (h : fn.results = #[.cell p ty, .tmp u, .tmp v]) (tmps : Array Value) (P : Program) (w : World) :
    (results fn tmps).run P w = ((asAddr (tmps.getD p undef)).run P w).andThen fun a w₁ => ((loadVar ty a).run P w₁).andThen fun x w₂ => .ok (.tuple #[x, tmps.getD u undef, tmps.getD v undef]) w₂ := by
  simp only [results, h]
  simp [Sem.run_bind, Result.andThen]
theorem res_sent {fn : Func} {p u v : Tmp} (h : fn.results = #[.cell p 145, .tmp u, .tmp v]) (tmps : Array Value) (w : World) (G : Nat) (a b c : Int) (hp : tmps.getD p undef = .pointer (some ⟨G, 0, none⟩)) (hb : Bk w G 145 #[.int .i64 a, .int .i64 b, .int .i64 c]) :
    (results fn tmps).run Tryz.prog w = .ok (.tuple #[.agg #[.int .i64 a, .int .i64 b, .int .i64 c], tmps.getD u undef, tmps.getD v undef]) w := by
  rw [results_cell_tmp2 h, hp]
  simp only [asAddr, Sem.run_pure, Result.andThen_ok, run_loadVar_row w G _ _ _ (0, 0) _ hb Tryz.underlying145 rfl size_st]
theorem key_intd : Keyed Tryz.prog 3 := int_keyed Tryz.underlying3
theorem zero_sent (w : World) : (zeroValue 145).run Tryz.prog w = .ok (.agg #[.int .i64 0, .int .i64 0, .int .i64 0]) w := by kernel_rfl
theorem DedAt.ext {w w' : World} {P : Nat → Prop} {db N : Nat} {d : DedM} (h : DedAt w P db N d) (hb : Below w.heap.size w w') : DedAt w' P db N d := h.turned (Q := fun _ => False) (Turned.of_below hb) (fun _ _ _ => id)
set_option maxRecDepth 100000 in
/-- what the look-up hands back -/
theorem ded_look {w : World} {mb N : Nat} {D : DataW Value} {d : DedM} (ho : w.ownsMap Tryz.prog 3 rawElem mb N D) (hs : Sents D d) (p : Int) (hp : (Lit.int .i64 p).wf = true) :
    (Instr.lookup 142 (.map (some mb)) (.int .i64 p) true).run Tryz.prog w = .ok (.tuple #[(match d p with | some x => x.val | none => .agg #[.int .i64 0, .int .i64 0, .int .i64 0]), .bool (d p).isSome]) w := by
  obtain ⟨v, ps, hlk, hv⟩ := ho.look_ok key_intd Tryz.underlying142 (zero_sent _) (show rawElem (.agg #[.int .i64 0, .int .i64 0, .int .i64 0]) = some (.held (.agg #[.int .i64 0, .int .i64 0, .int .i64 0]), []) from rfl) (keyOf_int_mk Tryz.underlying3 hp)
  have hv : some (DataW.held v, ([] : List MemPlace)) = some (_, ps) := hv
  injection hv with hv
  injection hv with hv _
  obtain ⟨h1, h2⟩ := hs p
  cases hd : d p with
  | none =>
    have h3 := h2 hd
    rw [atKey_of_not_has h3] at hv
    injection hv with hv
    rw [hlk, h3, hv]
    rfl
  | some x =>
    obtain ⟨h3, h4⟩ := h1 x hd
    rw [h4] at hv
    injection hv with hv
    rw [hlk, h3, hv]
    rfl
set_option maxRecDepth 100000 in
theorem dedNew_any (w : World) : Calls Tryz.prog 80 #[] w fun e w' => ∃ db, e = .returned (.pointer (some ⟨db, 0, none⟩)) ∧ DedAt w' (fun i => w.heap.size ≤ i) db 0 (fun _ => none) ∧ Below w.heap.size w w' := by
  have hmm := @run_makeMap Tryz.prog
  go_enter Tryz.func80, Tryz.ntmps80
  go_wp2
  go_ret
  have hs : (w.alloc (.map #[] 0)).heap.size = w.heap.size + 1 := by simp
  have ho := World.ownsMap_made (H := Value) w Tryz.prog 3 rawElem
  have hk := Bk.made (w.alloc (.map #[] 0)) 147 #[.map (some w.heap.size)]
  rw [hs] at hk
  refine ⟨w.heap.size + 1, rfl, ⟨⟨_, _, hk, ho.alloc _, fun p => ⟨(fun s h => by cases h), fun _ => rfl⟩, Nat.le_refl _⟩, by omega⟩, (below_new w _).trans (below_le (by simp) (below_new _ _))⟩
attribute [local go_sem ↓] ldS_eq stS_eq
/-- what Ask hands back -/
def AskR (d : DedM) (p s : Int) (w w' : World) (e : Ending) : Prop := ∃ (x : SentM) (ag : Bool) (v : Value), e = .returned (.tuple #[.agg #[.int .i64 x.seq, .int .i64 x.base, .int .i64 x.cnt], .bool ag, v]) ∧
      ((askD d p s = (x, ag, 0) ∧ v = .nilIface) ∨ (askD d p s = (x, ag, 12) ∧ IsErr 1 v 12)) ∧ Below w.heap.size w w'
set_option maxRecDepth 100000 in
set_option maxHeartbeats 2000000 in
theorem dedAsk_any {P : Nat → Prop} {db N : Nat} {d : DedM} {w : World} (h : DedAt w P db N d) (hd : DedOk d) (p s : Int) (hp : 0 ≤ p ∧ p ≤ 1048576) (hs : 0 ≤ s ∧ s ≤ 1099511627776) :
    Calls Tryz.prog 84 #[.pointer (some ⟨db, 0, none⟩), .int .i64 p, .int .i64 s] w fun e w' => AskR d p s w w' e := by
  have hz := Bk.made w 145 #[.int .i64 0, .int .i64 0, .int .i64 0]
  have hbn := below_new w (.cells #[.int .i64 0, .int .i64 0, .int .i64 0] 145)
  have HZ := Lib.hid hz
  have HB := Lib.hid hbn
  have hst := stS_row hz rfl 0 0 0
  by_cases h0 : p = 0
  · have q0 : (p == 0) = true := by simp [h0]
    have ha : Hid (askD d p s = (⟨0, 0, 0⟩, false, 0)) := by show askD d p s = _; unfold askD; rw [if_pos h0]
    clear hz hbn h h0 hd
    go_enter Tryz.func84, Tryz.ntmps84
    go_wp2_with fail
    exact bodyPost_ret (res_sent (u := 7) (v := 8) rfl _ _ w.heap.size 0 0 0 rfl (Bk.row HZ.out _)) rfl ⟨⟨0, 0, 0⟩, false, .nilIface, rfl, .inl ⟨ha.out, rfl⟩, below_row HB.out HB.out.size (Nat.le_refl _) _⟩
  · have q0 : (p == 0) = false := by simp [h0]
    obtain ⟨⟨mb, D, h1, h2, h3, h4⟩, h5⟩ := h.ext hbn
    have c0 : (w.alloc (.cells #[.int .i64 0, .int .i64 0, .int .i64 0] 145)).cell? ⟨db, 0, none⟩ = some (.map (some mb)) := h1.cell 0
    have hlk := ded_look h2 h3 p (wf_of (by omega) (by omega))
    have n1 : ¬ p < 0 := by omega
    have n2 : ¬ 1048576 < p := by omega
    have n3 : ¬ s < 0 := by omega
    have n4 : ¬ 1099511627776 < s := by omega
    have hask : askD d p s = match d p with
        | some x => if s = x.seq then (x, true, 0) else if s = x.seq + 1 then (⟨0, 0, 0⟩, false, 0) else (⟨0, 0, 0⟩, false, 12)
        | none => if s = 0 then (⟨0, 0, 0⟩, false, 0) else (⟨0, 0, 0⟩, false, 12) := by
      unfold askD
      rw [if_neg h0, if_neg (by omega)]
      rfl
    have hsx := hd p
    clear h h1 h2 h3 h4 h5 hz hd h0
    cases hdp : d p with
    | none =>
      rw [hdp] at hask hlk
      replace hlk : (Instr.lookup 142 (.map (some mb)) (.int .i64 p) true).run Tryz.prog (w.alloc (.cells #[.int .i64 0, .int .i64 0, .int .i64 0] 145)) = .ok (.tuple #[.agg #[.int .i64 0, .int .i64 0, .int .i64 0], .bool false]) (w.alloc (.cells #[.int .i64 0, .int .i64 0, .int .i64 0] 145)) := hlk
      replace hask : askD d p s = if s = 0 then (⟨0, 0, 0⟩, false, 0) else (⟨0, 0, 0⟩, false, 12) := hask
      have hst2 := stS_new (w.alloc (.cells #[.int .i64 0, .int .i64 0, .int .i64 0] 145)) 0 0 0
      have hbn2 := below_new (w.alloc (.cells #[.int .i64 0, .int .i64 0, .int .i64 0] 145)) (.cells #[.int .i64 0, .int .i64 0, .int .i64 0] 145)
      have HB2 := Lib.hid (HB.out.trans (below_le HB.out.size hbn2))
      have HZ2 := Lib.hid (HZ.out.ext hbn2)
      have hst3 := stS_row HZ2.out rfl 0 0 0
      have hs1 : (w.alloc (.cells #[.int .i64 0, .int .i64 0, .int .i64 0] 145)).heap.size = w.heap.size + 1 := by simp
      rw [hs1] at hst2
      by_cases hs0 : s = 0
      · have q1 : (s == 0) = true := by simp [hs0]
        rw [if_pos hs0] at hask
        have Hask := Lib.hid hask
        clear hask hbn2 hs0 hsx hst hs1 hbn
        go_enter Tryz.func84, Tryz.ntmps84
        go_wp2_with fail

        refine bodyPost_ret (res_sent (u := 7) (v := 8) rfl _ _ w.heap.size 0 0 0 rfl (Bk.row HZ2.out _)) rfl ?_
        exact ⟨⟨0, 0, 0⟩, false, .nilIface, rfl, .inl ⟨Hask.out, rfl⟩, below_row HB2.out HB2.out.size (Nat.le_refl _) _⟩
      · have q1 : (s == 0) = false := by simp [hs0]
        rw [if_neg hs0] at hask
        have Hask := Lib.hid hask
        clear hask hbn2 hs0 hsx hst hs1 hbn
        go_enter Tryz.func84, Tryz.ntmps84
        go_wp2_with (first | (go_at_call 26; refine (wrap_err (.no 12) _ _ _).mono ?_; rintro er w4 ⟨v4, rfl, he4, rfl⟩) | fail)
        refine bodyPost_ret (res_sent (u := 7) (v := 8) rfl _ _ w.heap.size 0 0 0 rfl (Bk.row HZ2.out _)) rfl ?_
        exact ⟨⟨0, 0, 0⟩, false, v4, rfl, .inr ⟨Hask.out, he4⟩, below_row HB2.out HB2.out.size (Nat.le_refl _) _⟩
    | some x =>
      rw [hdp] at hask hlk
      obtain ⟨x1, x2⟩ := hsx x hdp
      replace hlk : (Instr.lookup 142 (.map (some mb)) (.int .i64 p) true).run Tryz.prog (w.alloc (.cells #[.int .i64 0, .int .i64 0, .int .i64 0] 145)) = .ok (.tuple #[.agg #[.int .i64 x.seq, .int .i64 x.base, .int .i64 x.cnt], .bool true]) (w.alloc (.cells #[.int .i64 0, .int .i64 0, .int .i64 0] 145)) := hlk
      replace hask : askD d p s = if s = x.seq then (x, true, 0) else if s = x.seq + 1 then (⟨0, 0, 0⟩, false, 0) else (⟨0, 0, 0⟩, false, 12) := hask
      have hst2 := stS_new (w.alloc (.cells #[.int .i64 0, .int .i64 0, .int .i64 0] 145)) x.seq x.base x.cnt
      have hbn2 := below_new (w.alloc (.cells #[.int .i64 0, .int .i64 0, .int .i64 0] 145)) (.cells #[.int .i64 x.seq, .int .i64 x.base, .int .i64 x.cnt] 145)
      have HB2 := Lib.hid (HB.out.trans (below_le HB.out.size hbn2))
      have HZ2 := Lib.hid (HZ.out.ext hbn2)
      have hst3 := stS_row HZ2.out rfl 0 0 0
      have hst4 := stS_row HZ2.out rfl x.seq x.base x.cnt
      have hld := ldS_bk (Bk.made (w.alloc (.cells #[.int .i64 0, .int .i64 0, .int .i64 0] 145)) 145 #[.int .i64 x.seq, .int .i64 x.base, .int .i64 x.cnt])
      have hw : wrap64 (x.seq + 1) = x.seq + 1 := IntWalk.wrap64_in _ ⟨by omega, by omega⟩
      have hs1 : (w.alloc (.cells #[.int .i64 0, .int .i64 0, .int .i64 0] 145)).heap.size = w.heap.size + 1 := by simp
      rw [hs1] at hst2 hld
      by_cases hs0 : s = x.seq
      · have q1 : (s == x.seq) = true := by simp [hs0]
        rw [if_pos hs0] at hask
        have Hask := Lib.hid hask
        clear hask hbn2 hs0 hst hs1 hbn hst3 hdp hsx x1 x2
        go_enter Tryz.func84, Tryz.ntmps84
        go_wp2_with fail
        refine bodyPost_ret (res_sent (u := 7) (v := 8) rfl _ _ w.heap.size x.seq x.base x.cnt rfl (Bk.row HZ2.out _)) rfl ?_
        exact ⟨x, true, .nilIface, rfl, .inl ⟨Hask.out, rfl⟩, below_row HB2.out HB2.out.size (Nat.le_refl _) _⟩
      · have q1 : (s == x.seq) = false := by simp [hs0]
        rw [if_neg hs0] at hask
        by_cases hs2 : s = x.seq + 1
        · have q2 : (s == x.seq + 1) = true := by simp [hs2]
          rw [if_pos hs2] at hask
          have Hask := Lib.hid hask
          clear hask hbn2 hs0 hs2 hst hs1 hbn hst4 hdp hsx x1 x2
          go_enter Tryz.func84, Tryz.ntmps84
          go_wp2_with fail
          refine bodyPost_ret (res_sent (u := 7) (v := 8) rfl _ _ w.heap.size 0 0 0 rfl (Bk.row HZ2.out _)) rfl ?_
          exact ⟨⟨0, 0, 0⟩, false, .nilIface, rfl, .inl ⟨Hask.out, rfl⟩, below_row HB2.out HB2.out.size (Nat.le_refl _) _⟩
        · have q2 : (s == x.seq + 1) = false := by simp [hs2]
          rw [if_neg hs2] at hask
          have Hask := Lib.hid hask
          clear hask hbn2 hs0 hs2 hst hs1 hbn hst4 hdp hsx x1 x2
          go_enter Tryz.func84, Tryz.ntmps84
          go_wp2_with (first | (go_at_call 26; refine (wrap_err (.no 12) _ _ _).mono ?_; rintro er w4 ⟨v4, rfl, he4, rfl⟩) | fail)
          refine bodyPost_ret (res_sent (u := 7) (v := 8) rfl _ _ w.heap.size 0 0 0 rfl (Bk.row HZ2.out _)) rfl ?_
          exact ⟨⟨0, 0, 0⟩, false, v4, rfl, .inr ⟨Hask.out, he4⟩, below_row HB2.out HB2.out.size (Nat.le_refl _) _⟩
end Go.Proofs.YtjodiieeocaipaaGreatDoor

/-
  dedup: Note.
-/
namespace Go.Proofs.YtjodiieeocaipaaGreatDoor
open Go.RowKit Go.Maps
attribute [local go_sem ↓] ldS_eq stS_eq

theorem sents_put {D : DataW Value} {d : DedM} (h : Sents D d) (hD : Maps.IsMap D) (p : Int) (hp : p ≠ 0) (x : SentM) : Sents (D.put (.int .i64 p) (.held x.val)) (noteD d p x) := by
  intro q
  unfold noteD
  rw [if_neg hp]
  by_cases e : q = p
  · subst e
    simp only [if_true]
    exact ⟨fun s hs => by
      cases hs
      exact ⟨has_put_same hD (show WideAt.IsKeyLit (.int .i64 q) from trivial) _, fun z => atKey_put_same hD (show WideAt.IsKeyLit (.int .i64 q) from trivial) _ z⟩, fun hn => by cases hn⟩
  · simp only [if_neg e]
    have hk : Lit.int .i64 q ≠ Lit.int .i64 p := fun e2 => e (by injection e2)
    obtain ⟨h1, h2⟩ := h q
    exact ⟨fun s hs => by
      obtain ⟨a1, a2⟩ := h1 s hs
      exact ⟨by rw [has_put_other hk]; exact a1, fun z => by rw [atKey_put_other hk]; exact a2 z⟩, fun hn => by rw [has_put_other hk]; exact h2 hn⟩
theorem noteD_ok {d : DedM} (h : DedOk d) (p : Int) {x : SentM} (hx : 0 ≤ x.seq ∧ x.seq ≤ 1099511627776) : DedOk (noteD d p x) := by
  intro q y hq
  unfold noteD at hq
  split at hq
  · exact h q y hq
  · dsimp only at hq
    split at hq
    · cases hq
      exact hx
    · exact h q y hq
set_option maxRecDepth 100000 in
set_option maxHeartbeats 2000000 in
theorem dedNote_any {P : Nat → Prop} {db N : Nat} {d : DedM} {w : World} (h : DedAt w P db N d) (hN : N ≤ 1000000) (p : Int) (hp : 0 ≤ p ∧ p ≤ 1048576) (x : SentM) :
    Calls Tryz.prog 86 #[.pointer (some ⟨db, 0, none⟩), .int .i64 p, .agg #[.int .i64 x.seq, .int .i64 x.base, .int .i64 x.cnt]] w fun e w' => e = .returned (.tuple #[]) ∧ DedAt w' (Wide P w) db (N + 1) (noteD d p x) ∧ Turned P w w' := by
  have hbn := below_new w (.cells #[.int .i64 x.seq, .int .i64 x.base, .int .i64 x.cnt] 145)
  have hkb := Bk.made w 145 #[.int .i64 x.seq, .int .i64 x.base, .int .i64 x.cnt]
  have h1 := h.ext hbn
  by_cases h0 : p = 0
  · have q0 : (p != 0) = false := by simp [h0]
    have hno : Hid (noteD d p x = d) := by show noteD d p x = d; unfold noteD; rw [if_pos h0]
    have H1 := Lib.hid h1
    have HB := Lib.hid hbn
    clear h h1 hbn h0
    go_enter Tryz.func86, Tryz.ntmps86
    go_wp2_with fail
    go_end0
    rw [hno.out]
    exact ⟨rfl, (H1.out.mono (Nat.le_succ N)).more (fun i _ hq => .inl hq), Turned.of_below HB.out⟩
  · have q0 : (p != 0) = true := by simp [h0]
    obtain ⟨⟨mb, D, a1, a2, a3, a4⟩, a5⟩ := h1
    have c0 : (w.alloc (.cells #[.int .i64 x.seq, .int .i64 x.base, .int .i64 x.cnt] 145)).cell? ⟨db, 0, none⟩ = some (.map (some mb)) := a1.cell 0
    have hkey := keyOf_int_mk Tryz.underlying3 (P := Tryz.prog) (wf_of (z := p) (by omega) (by omega))
    have A1 := Lib.hid a1
    have A2 := Lib.hid a2
    have A3 := Lib.hid a3
    have HB := Lib.hid hbn
    have H0 := Lib.hid h0
    have HKB := Lib.hid hkb
    clear h a1 a2 a3 hbn h0 hp hkb
    go_enter Tryz.func86, Tryz.ntmps86
    go_upto_region 2 with fail
    generalize w.alloc (.cells #[.int .i64 x.seq, .int .i64 x.base, .int .i64 x.cnt] 145) = W at HKB c0 A1 A2 HB ⊢
    have hld' := ldS_bk (show Bk W.drew w.heap.size 145 _ from HKB.out)
    go_still_tail 6, (by kernel_rfl)
    change wpList _ _ _ _ _ W.drew
    have A2' : Hid (W.drew.ownsMap Tryz.prog 3 rawElem mb N D) := A2.out
    have hbd := below_drew1 (Below.refl W.heap.size W)
    clear hld' c0
    go_wp2_with (first | (at_mapUpdate; go_loud (refine wpList_mapUpdate_own _ rfl _ _ _ 142 rfl 3 145 key_intd Tryz.underlying142 rawElem mb N D rfl A2'.out (by unfold maxLen; omega) _ _ (.int .i64 p) rfl rfl hkey (.held x.val) [] rfl ?_); go_loud (intro w4 ho4 hg4)) | fail)
    have hT : Turned P w w4 := ((Turned.of_below (P := P) HB.out).then_below hbd).then_grown hg4 (fun j e => .inl (by rw [← Option.some.inj e]; exact a4))
    have hne : db ≠ mb := fun e => by
      have h1 := A1.out
      obtain ⟨es, clock, h2, _⟩ := A2.out
      rw [← e] at h2
      unfold Bk at h1
      rw [h1] at h2
      cases h2
    have hk4 := (A1.out.ext hbd).grown hg4 (fun e => hne (Option.some.inj e))
    have HR : Hid (DedAt w4 (Wide P w) db (N + 1) (noteD d p x) ∧ Turned P w w4) := ⟨⟨⟨mb, _, hk4, ho4, sents_put A3.out (A2.out.tidy key_intd).isMap p H0.out x, .inl a4⟩, .inl a5⟩, hT⟩
    clear ho4 hg4 hT hk4
    go_wp2_with fail
    go_end0
    exact ⟨rfl, HR.out⟩
end Go.Proofs.YtjodiieeocaipaaGreatDoor
