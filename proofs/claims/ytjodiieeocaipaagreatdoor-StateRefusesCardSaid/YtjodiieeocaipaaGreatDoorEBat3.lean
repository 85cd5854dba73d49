/-
  batch: Get.
-/
import Derived.Test.YtjodiieeocaipaaGreatDoorEGet
import Derived.Laws.ResultCell
namespace Go.Proofs.YtjodiieeocaipaaGreatDoor
open Go.RowKit
attribute [local go_sem ↓] ldB_eq

def stB (v u : Value) : Sem Unit := Instr.storeAt 32 v u
theorem stB_eq (v u : Value) : Instr.storeAt 32 v u = stB v u := rfl
theorem one_b (b : Bat) (A : Option Addr) (n c : Nat) : ∀ u ∈ b.cells A n c, u.oneCell' = true := one_all rfl
theorem stB_row (w : World) (g : Nat) (b : Bat) (A : Option Addr) (n c : Nat) (old : Array Value) (h : Bk w g 32 old) (ho : old.size = 4) : (stB (.pointer (some ⟨g, 0, none⟩)) (.agg #[.int .i64 b.time, .int .i64 b.prod, .int .i64 b.seq, .slice A n c])).run Tryz.prog w = .ok () (w.setRow g #[.int .i64 b.time, .int .i64 b.prod, .int .i64 b.seq, .slice A n c]) := by
  unfold stB
  simp only [Instr.storeAt, Instr.sureAddr, Sem.run_bind, Sem.run_pure, Result.andThen_ok, run_storeVar_row w g _ _ old #[.int .i64 b.time, .int .i64 b.prod, .int .i64 b.seq, .slice A n c] h size_b (by rw [ho]; rfl) (all_oneCell_toArray (cs := b.cells A n c) (one_b b A n c))]
attribute [local go_sem ↓] stB_eq
theorem IsErr.ne {d : Nat} {v : Value} {k : Int} (h : IsErr d v k) (w : World) : (binOp .neq 27 v .nilIface).run Tryz.prog w = .ok (.bool true) w := by
  cases h with
  | no k => kernel_rfl
  | flt d op at_ v k h => kernel_rfl
theorem IsErr.guardN {d : Nat} {v : Value} {k : Int} (h : IsErr d v k) (x : Tmp) (w : World) : (eqGuard .neq 27 (.tmp x) (.const .nilIface) v .nilIface).run Tryz.prog w = .ok () w := by
  cases h with
  | no k => kernel_rfl
  | flt d op at_ v k h => kernel_rfl
theorem res_bat {fn : Func} {p u : Tmp} (h : fn.results = #[.cell p 32, .tmp u]) (tmps : Array Value) (w : World) (g : Nat) (b : Bat) (A : Option Addr) (n c : Nat) (hp : tmps.getD p undef = .pointer (some ⟨g, 0, none⟩)) (hb : Bk w g 32 #[.int .i64 b.time, .int .i64 b.prod, .int .i64 b.seq, .slice A n c]) :
    (results fn tmps).run Tryz.prog w = .ok (.tuple #[.agg #[.int .i64 b.time, .int .i64 b.prod, .int .i64 b.seq, .slice A n c], tmps.getD u undef]) w := by
  rw [results_cell_tmp h, hp]
  simp only [asAddr, Sem.run_pure, Result.andThen_ok, run_loadVar_row w g _ _ _ (0, 0) _ hb Tryz.underlying32 rfl size_b]
/-- what batch.Get hands back -/
def BatR (l : List UInt8) (B : Nat) (w' : World) (b : Bat) (A : Option Addr) (n c : Nat) (v : Value) : Prop :=
  RdT w' A n c b.vals ∧ (∀ ad, A = some ad → B ≤ ad.block) ∧ ((v = .nilIface ∧ getB l = .ok b) ∨ (b = noB ∧ ∃ d k, IsErr d v k ∧ getB l = .error k))
theorem bat_ms {ms : List MVal} {l : List UInt8} (h : getAll batF l = .ok (vsOf ms)) : ∃ m0 m1 m2 m3, ms = [m0, m1, m2, m3] ∧ madeB (vsOf ms) = ⟨m0.v.n, m1.v.n, m2.v.n, m3.v.l⟩ := by
  obtain ⟨h1, _⟩ := getAll_inv batF l _ good_bat h
  obtain ⟨b, h2, _⟩ := bat_shape h1
  have hl := congrArg List.length h2
  unfold vsOf at hl
  rw [List.length_map] at hl
  match ms, hl with
  | [m0, m1, m2, m3], _ => exact ⟨m0, m1, m2, m3, rfl, rfl⟩
set_option maxRecDepth 100000 in
set_option maxHeartbeats 4000000 in
theorem bget_any (A : Option Addr) (n c : Nat) (l : List UInt8) (w : World) (hr : RdB w A n c l) :
    Calls Tryz.prog 76 #[.slice A n c] w fun e w' => ∃ b A' n' c' v, e = .returned (.tuple #[.agg #[.int .i64 b.time, .int .i64 b.prod, .int .i64 b.seq, .slice A' n' c'], v]) ∧ BatR l w.heap.size w' b A' n' c' v ∧ Below w.heap.size w w' := by
  have hbn := below_new w (.cells #[.int .i64 0, .int .i64 0, .int .i64 0, .slice none 0 0] 32)
  have hz := Bk.made w 32 #[.int .i64 0, .int .i64 0, .int .i64 0, .slice none 0 0]
  have Hz := Lib.hid hz
  have Hbn := Lib.hid hbn
  have HRb := Lib.hid hr
  have HFd := Lib.hid (bfields_any _ w w.heap.size hbn hbn.size)
  clear hz hbn hr
  go_enter Tryz.func76, Tryz.ntmps76
  go_wp2_with fail
  with_reducible refine HFd.out.mono ?_
  rintro e w1 ⟨g1, rfl, hf1, hb1, hs1, hx1⟩
  have hz1 := Lib.hid (Hz.out.ext hx1)
  have HB1 := Lib.hid hb1
  have HG := Lib.hid (fget_any _ 4 4 batF A n c l w1 bat_some hf1 (HRb.out.ext hb1) (by omega))
  clear hf1 hb1 hx1
  go_wp2_with fail
  with_reducible refine HG.out.mono ?_
  rintro e w2 ⟨A2, n2, c2, v2, rfl, hgr, hb2⟩
  have hz2 := Lib.hid (hz1.out.ext hb2)
  have HB2 := Lib.hid (HB1.out.trans (below_le hs1 hb2))
  clear hb2
  rcases hgr with ⟨ms, rfl, hv, hga, hpr⟩ | ⟨k, hk, hga⟩
  · obtain ⟨m0, m1, m2, m3, rfl, hmade⟩ := bat_ms hga
    have hlen := hv.rows.len
    obtain rfl : n2 = 4 := by simpa using hlen.symm
    obtain ⟨gv, rfl, hgv, e0⟩ := hv.rows.cell 0 m0.cells rfl
    obtain ⟨_, h1, _, e1⟩ := hv.rows.cell 1 m1.cells rfl
    injection h1 with h1; injection h1 with h1; subst h1
    obtain ⟨_, h1, _, e2⟩ := hv.rows.cell 2 m2.cells rfl
    injection h1 with h1; injection h1 with h1; subst h1
    obtain ⟨_, h1, _, e3⟩ := hv.rows.cell 3 m3.cells rfl
    injection h1 with h1; injection h1 with h1; subst h1
    have d0 : w2.cell? ⟨gv, 0, none⟩ = some (.int .i64 m0.v.n) := e0 0 _ rfl
    have d3 : w2.cell? ⟨gv, 3, none⟩ = some (.int .i64 m1.v.n) := e1 0 _ rfl
    have d6 : w2.cell? ⟨gv, 6, none⟩ = some (.int .i64 m2.v.n) := e2 0 _ rfl
    have d11 : w2.cell? ⟨gv, 11, none⟩ = some (.slice m3.A m3.n m3.c) := e3 2 _ rfl
    have Hok := Lib.hid (hv.vals m3 (by simp))
    have Hpr := Lib.hid (hpr m3 (by simp))
    have Hw1 := Lib.hid hz1.out.lt
    clear hpr
    have Hga := Lib.hid hga
    have Hmade := Lib.hid hmade
    have hcv := hv.rows.cap
    have hcb := hv.rows.big
    clear e0 e1 e2 e3 hv hga hlen hmade
    have FS : Hid (∀ w', Below w2.heap.size w2 w' → (Below w2.heap.size w2 w' ∧ w'.cell? ⟨gv, 0, none⟩ = some (.int .i64 m0.v.n) ∧ w'.cell? ⟨gv, 3, none⟩ = some (.int .i64 m1.v.n) ∧ w'.cell? ⟨gv, 6, none⟩ = some (.int .i64 m2.v.n) ∧ w'.cell? ⟨gv, 11, none⟩ = some (.slice m3.A m3.n m3.c))) := fun w' hb =>
      ⟨hb, (hb.cell (p := ⟨gv, 0, none⟩) hgv).trans d0, (hb.cell (p := ⟨gv, 3, none⟩) hgv).trans d3, (hb.cell (p := ⟨gv, 6, none⟩) hgv).trans d6, (hb.cell (p := ⟨gv, 11, none⟩) hgv).trans d11⟩
    have r0 := below_drew1 (Below.refl w2.heap.size w2)
    have hst := stB_row _ _ ⟨m0.v.n, m1.v.n, m2.v.n, m3.v.l⟩ m3.A m3.n m3.c _ (Bk.drawn1 (Bk.made w2 32 #[.int .i64 0, .int .i64 0, .int .i64 0, .slice none 0 0])) rfl
    have r1 := below_drew1 ((Below.refl w2.heap.size w2).alloc (Nat.le_refl _) (.cells #[.int .i64 0, .int .i64 0, .int .i64 0, .slice none 0 0] 32))
    have r2 := below_row r1 r1.size (Nat.le_refl _) #[.int .i64 m0.v.n, .int .i64 m1.v.n, .int .i64 m2.v.n, .slice m3.A m3.n m3.c]
    clear d0 d3 d6 d11
    go_wp2_with fail
    go_region_held3 (fun w' => Below w2.heap.size w2 w' ∧ w'.cell? ⟨gv, 0, none⟩ = some (.int .i64 m0.v.n) ∧ w'.cell? ⟨gv, 3, none⟩ = some (.int .i64 m1.v.n) ∧ w'.cell? ⟨gv, 6, none⟩ = some (.int .i64 m2.v.n) ∧ w'.cell? ⟨gv, 11, none⟩ = some (.slice m3.A m3.n m3.c)) (first | exact FS.out _ r0 | exact FS.out _ r1 | exact FS.out _ r2) (first | fail)
    all_goals
      have hb3 : Bk ((w2.alloc (.cells #[.int .i64 0, .int .i64 0, .int .i64 0, .slice none 0 0] 32)).drew.setRow w2.heap.size #[.int .i64 m0.v.n, .int .i64 m1.v.n, .int .i64 m2.v.n, .slice m3.A m3.n m3.c]) w2.heap.size 32 #[.int .i64 m0.v.n, .int .i64 m1.v.n, .int .i64 m2.v.n, .slice m3.A m3.n m3.c] := Bk.row (Bk.drawn1 (Bk.made w2 32 #[.int .i64 0, .int .i64 0, .int .i64 0, .slice none 0 0])) _
      clear hst r0 r1 FS
      have hB3 := r2
      have hk3 := hb3
      clear r2 hb3
      generalize (w2.alloc (.cells #[.int .i64 0, .int .i64 0, .int .i64 0, .slice none 0 0] 32)).drew.setRow w2.heap.size #[.int .i64 m0.v.n, .int .i64 m1.v.n, .int .i64 m2.v.n, .slice m3.A m3.n m3.c] = w3 at hB3 hk3 ⊢
      have hld := ldB_bk (b := ⟨m0.v.n, m1.v.n, m2.v.n, m3.v.l⟩) hk3
      have HR := Lib.hid (bRight_any ⟨m0.v.n, m1.v.n, m2.v.n, m3.v.l⟩ m3.A m3.n m3.c w3 (RdT.ext Hok.out hB3) w3 w3.heap.size (Below.refl _ _) (Nat.le_refl _))
      have HK3 := Lib.hid hk3
      have hz3 := Lib.hid (hz2.out.ext hB3)
      have HB3 := Lib.hid (HB2.out.trans (below_le HB2.out.size hB3))
      have HO3 := Lib.hid (RdT.ext Hok.out hB3)
      clear hk3 hB3
      cases hrt : rightB ⟨m0.v.n, m1.v.n, m2.v.n, m3.v.l⟩
      · rw [hrt] at HR
        go_wp2_with fail
        with_reducible refine HR.out.mono ?_
        rintro e w4 ⟨rfl, hb4⟩
        have hz4 := hz3.out.ext hb4
        have hst4 := stB_row _ _ noB none 0 0 _ hz4 rfl
        simp only [noB] at hst4
        have Hz4 := Lib.hid hz4
        clear hld hz4
        go_wp2_with (first | (go_at_call 26; refine (wrap_err (.no 2) _ _ _).mono ?_; rintro e w5 ⟨v5, rfl, he5, rfl⟩) | fail)
        have hgb : getB l = .error 2 := by
          unfold getB
          rw [Hga.out]
          show (if rightB (madeB (vsOf _)) = true then Except.ok (madeB (vsOf _)) else Except.error 2) = _
          rw [Hmade.out, hrt]
          rfl
        exact bodyPost_ret (res_bat (u := 3) rfl _ _ w.heap.size noB none 0 0 rfl (Hz4.out.row _)) rfl ⟨noB, none, 0, 0, v5, rfl, ⟨RdT.nil _, (fun ad h => by cases h), .inr ⟨rfl, _, 2, he5, hgb⟩⟩, below_row (HB3.out.trans (below_le HB3.out.size hb4)) (Nat.le_trans HB3.out.size hb4.size) (Nat.le_refl _) _⟩
      · rw [hrt] at HR
        go_wp2_with fail
        with_reducible refine HR.out.mono ?_
        rintro e w4 ⟨rfl, hb4⟩
        have hz4 := hz3.out.ext hb4
        have hld4 := ldB_bk (b := ⟨m0.v.n, m1.v.n, m2.v.n, m3.v.l⟩) (HK3.out.ext hb4)
        have hst4 := stB_row _ _ ⟨m0.v.n, m1.v.n, m2.v.n, m3.v.l⟩ m3.A m3.n m3.c _ hz4 rfl
        have Hz4 := Lib.hid hz4
        clear hld hz4
        go_wp2_with fail
        have hgb : getB l = .ok ⟨m0.v.n, m1.v.n, m2.v.n, m3.v.l⟩ := by
          unfold getB
          rw [Hga.out]
          show (if rightB (madeB (vsOf _)) = true then Except.ok (madeB (vsOf _)) else Except.error 2) = _
          rw [Hmade.out, hrt]
          rfl
        have hr4 : RdT (w4.setRow w.heap.size #[.int .i64 m0.v.n, .int .i64 m1.v.n, .int .i64 m2.v.n, .slice m3.A m3.n m3.c]) m3.A m3.n m3.c m3.v.l := RdT.kept (RdT.ext HO3.out hb4) (grown_row _ _ _) (fun ad e e2 => by
          have h1 := Hpr.out ad e
          have h2 := Hw1.out
          have := Option.some.inj e2
          omega)
        exact bodyPost_ret (res_bat (u := 3) rfl _ _ w.heap.size ⟨m0.v.n, m1.v.n, m2.v.n, m3.v.l⟩ m3.A m3.n m3.c rfl (Hz4.out.row _)) rfl ⟨⟨m0.v.n, m1.v.n, m2.v.n, m3.v.l⟩, m3.A, m3.n, m3.c, .nilIface, rfl, ⟨hr4, fun ad e => by have h1 := Hpr.out ad e; have h2 := Hw1.out; omega, .inl ⟨rfl, hgb⟩⟩, below_row (HB3.out.trans (below_le HB3.out.size hb4)) (Nat.le_trans HB3.out.size hb4.size) (Nat.le_refl _) _⟩
  · have hne := hk.ne
    have hgd := hk.guardN 13
    have hst4 := stB_row _ _ noB none 0 0 _ hz2.out rfl
    simp only [noB] at hst4
    have Hk := Lib.hid hk
    have hgb : Hid (getB l = .error k) := by
      show getB l = .error k
      unfold getB
      rw [hga]
    clear hk hga
    go_wp2_with (first | (go_at_call 26; refine (wrap_err Hk.out _ _ _).mono ?_; rintro e w5 ⟨v5, rfl, he5, rfl⟩) | fail)
    exact bodyPost_ret (res_bat (u := 3) rfl _ _ w.heap.size noB none 0 0 rfl (hz2.out.row _)) rfl ⟨noB, none, 0, 0, v5, rfl, ⟨RdT.nil _, (fun ad h => by cases h), .inr ⟨rfl, _, k, he5, hgb.out⟩⟩, below_row HB2.out HB2.out.size (Nat.le_refl _) _⟩
end Go.Proofs.YtjodiieeocaipaaGreatDoor
