/-
  gram: the cursor's value.
-/
import Derived.Test.YtpfdbbcfcimmfaaGreatDoorECurT
namespace Go.Proofs.YtpfdbbcfcimmfaaGreatDoor
open Go.RowKit
attribute [local go_sem ↓] ldV_eq

theorem text_any (g : Nat) (A : Option Addr) (n c : Nat) (l : List UInt8) (p : Nat) (bad lo hi : Int) (w : World) (hr : RdB w A n c l) (hc : Cur w g A n c p bad) (hA : ∀ ad, A = some ad → 0 < n → ad.block ≠ g) (hp : p ≤ n) (hlo : 0 ≤ lo) (hlh : lo ≤ hi) (hhi : hi ≤ 65535) :
    Calls Tryz.prog 116 #[.pointer (some ⟨g, 0, none⟩), .int .i64 lo, .int .i64 hi] w fun e w' => ∃ (s : ByteArray) (p' : Nat) (b' : Int), e = .returned (.string s) ∧ Cur w' g A n c p' b' ∧ w.grownBy w' (some g) ∧ p' ≤ n ∧ ((bad = 0 ∧ TextR lo hi l p s p' b') ∨ (bad ≠ 0 ∧ b' = bad)) := by
  by_cases hb : bad = 0
  · subst hb
    refine (text_ok g A n c l p lo hi w hr hc hA hp hlo hlh hhi).mono ?_
    rintro e w' ⟨s, p', b', h1, h2, h3, h4, h5⟩
    exact ⟨s, p', b', h1, h2, h3, h4, .inl ⟨rfl, h5⟩⟩
  · refine (text_bad g A n c l p bad hb lo hi w hr hc hp hlo hlh hhi).mono ?_
    rintro e w' ⟨h1, h2, h3⟩
    exact ⟨_, p, bad, h1, h2, h3, hp, .inr ⟨hb, rfl⟩⟩
def stV (v u : Value) : Sem Unit := Instr.storeAt 101 v u
theorem stV_eq (v u : Value) : Instr.storeAt 101 v u = stV v u := rfl
theorem one_v (m : MVal) : ∀ u ∈ m.cells, u.oneCell' = true := one_all rfl
theorem stV_row (w : World) (g : Nat) (m : MVal) (old : Array Value) (h : Bk w g 101 old) (ho : old.size = 3) : (stV (.pointer (some ⟨g, 0, none⟩)) (.agg #[.int .i64 m.v.n, .string m.v.s, .slice m.A m.n m.c])).run Tryz.prog w = .ok () (w.setRow g #[.int .i64 m.v.n, .string m.v.s, .slice m.A m.n m.c]) := by
  unfold stV
  simp only [Instr.storeAt, Instr.sureAddr, Sem.run_bind, Sem.run_pure, Result.andThen_ok, run_storeVar_row w g _ _ old #[.int .i64 m.v.n, .string m.v.s, .slice m.A m.n m.c] h size_v (by rw [ho]; rfl) (all_oneCell_toArray (cs := m.cells) (one_v m))]
theorem ldV_bk {w : World} {g : Nat} {m : MVal} (h : Bk w g 101 #[.int .i64 m.v.n, .string m.v.s, .slice m.A m.n m.c]) : (ldV (.pointer (some ⟨g, 0, none⟩))).run Tryz.prog w = .ok (.agg #[.int .i64 m.v.n, .string m.v.s, .slice m.A m.n m.c]) w :=
  ldV_at (fun j u hu => by rw [Nat.zero_add, h.cell, ← hu]; simp [MVal.cells])
theorem Bk.keptG {w w' : World} {g b : Nat} {t : TypeId} {cs : Array Value} (h : Bk w b t cs) (hg : w.grownBy w' (some g)) (hne : b ≠ g) : Bk w' b t cs := by
  have hlt := h.lt
  unfold Bk at h ⊢
  rw [hg.block b hlt (fun e => hne (Option.some.inj e))]
  exact h
theorem grown_far {w w' : World} {g : Nat} (h : w.grownBy w' (some g)) {w'' : World} {b : Nat} (hg : w'.grownBy w'' (some b)) (hb : w.heap.size ≤ b) : w.grownBy w'' (some g) :=
  ⟨hg.os.trans h.os, hg.tape.trans h.tape, hg.output.trans h.output, Nat.le_trans h.size hg.size, fun k hk hne => by
    rw [hg.block k (Nat.lt_of_lt_of_le hk h.size) (fun e => by have := Option.some.inj e; omega)]
    exact h.block k hk hne⟩
attribute [local go_sem ↓] stV_eq
/-- what a value's reading does -/
def ValueR (f : Fld) (l : List UInt8) (p : Nat) (v : Val) (p' : Nat) (b' : Int) : Prop := (b' = 0 ∧ getV f (l.drop p) = .ok (v, l.drop p')) ∨ (b' ≠ 0 ∧ getV f (l.drop p) = .error b')
/-- the three blocks that value lays -/
structure Lay (w : World) (f : Fld) (B : Nat) (m : MVal) : Prop where
  f : Bk w B 98 #[.int .i64 f.kind, .int .i64 f.size, .int .i64 f.lo, .int .i64 f.hi, .int .i64 f.most]
  res : Bk w (B + 1) 101 #[.int .i64 0, .string ⟨#[]⟩, .slice none 0 0]
  v : Bk w (B + 2) 101 #[.int .i64 m.v.n, .string m.v.s, .slice m.A m.n m.c]
def zM : MVal := ⟨⟨0, ⟨#[]⟩, []⟩, none, 0, 0⟩
theorem lay_made (w : World) (f : Fld) : Lay (((w.alloc (.cells #[.int .i64 f.kind, .int .i64 f.size, .int .i64 f.lo, .int .i64 f.hi, .int .i64 f.most] 98)).alloc (.cells #[.int .i64 0, .string ⟨#[]⟩, .slice none 0 0] 101)).alloc (.cells #[.int .i64 0, .string ⟨#[]⟩, .slice none 0 0] 101)) f w.heap.size zM :=
  ⟨((Bk.made w _ _).alloc _).alloc _, (Bk.made_at _ _ _ _ (by simp)).alloc _, Bk.made_at _ _ _ _ (by simp)⟩
theorem Lay.grown {w w' : World} {f : Fld} {B g : Nat} {m : MVal} (h : Lay w f B m) (hg : w.grownBy w' (some g)) (hne : g < B) : Lay w' f B m :=
  ⟨h.f.keptG hg (by omega), h.res.keptG hg (by omega), h.v.keptG hg (by omega)⟩
set_option maxRecDepth 100000 in
set_option maxHeartbeats 2000000 in
theorem value_num (g : Nat) (A : Option Addr) (n c : Nat) (l : List UInt8) (p : Nat) (size : Nat) (sz lo hi most : Int) (hsz : sz = size) (w : World) (hr : RdB w A n c l) (hc : Cur w g A n c p 0) (hp : p ≤ n) (hs : size ≤ 8) (hlo : 0 ≤ lo) (hlh : lo ≤ hi) (hhi : hi ≤ 9223372036854775807) :
    Calls Tryz.prog 83 #[.pointer (some ⟨g, 0, none⟩), .agg #[.int .i64 1, .int .i64 sz, .int .i64 lo, .int .i64 hi, .int .i64 most]] w fun e w' => ∃ (m : MVal) (p' : Nat) (b' : Int), e = .returned (.agg #[.int .i64 m.v.n, .string m.v.s, .slice m.A m.n m.c]) ∧ m.ok w' ∧ (∀ ad, m.A = some ad → w.heap.size ≤ ad.block ∧ ad.block < w'.heap.size) ∧ Cur w' g A n c p' b' ∧ w.grownBy w' (some g) ∧ p' ≤ n ∧ ValueR ⟨1, sz, lo, hi, most⟩ l p m.v p' b' := by
  subst hsz
  have hlay := lay_made w ⟨1, size, lo, hi, most⟩
  have hg3 : w.grownBy (((w.alloc (.cells #[.int .i64 1, .int .i64 size, .int .i64 lo, .int .i64 hi, .int .i64 most] 98)).alloc (.cells #[.int .i64 0, .string ⟨#[]⟩, .slice none 0 0] 101)).alloc (.cells #[.int .i64 0, .string ⟨#[]⟩, .slice none 0 0] 101)) (some g) :=
    (grown_of_below ((((Below.refl w.heap.size w).alloc (Nat.le_refl _) _).alloc (by simp) _).alloc (by simp; omega) _)).but _
  have hbl3 : Below w.heap.size w (((w.alloc (.cells #[.int .i64 1, .int .i64 size, .int .i64 lo, .int .i64 hi, .int .i64 most] 98)).alloc (.cells #[.int .i64 0, .string ⟨#[]⟩, .slice none 0 0] 101)).alloc (.cells #[.int .i64 0, .string ⟨#[]⟩, .slice none 0 0] 101)) :=
    (((Below.refl w.heap.size w).alloc (Nat.le_refl _) _).alloc (by simp) _).alloc (by simp; omega) _
  have hgl : g < w.heap.size := Bk.lt hc
  have HLay := Lib.hid hlay
  have HG3 := Lib.hid hg3
  have HN := Lib.hid (num_r g A n c l p size size lo hi rfl _ (hr.ext hbl3) (Bk.ext hc hbl3) hp hs hlo hlh hhi)
  clear hlay hg3 hbl3
  go_enter Tryz.func83, Tryz.ntmps83
  go_wp2_with fail
  with_reducible refine HN.out.mono ?_
  rintro e w1 ⟨m, p1, b1, rfl, hc1, hg1, hp1, hnr⟩
  have hl1 := HLay.out.grown hg1 hgl
  have HG1 := Lib.hid (HG3.out.trans hg1)
  have cv : w1.cell? ⟨w.heap.size + 1 + 1, 0, none⟩ = some (.int .i64 0) := hl1.v.cell 0
  have fv : w1.frozen? ⟨w.heap.size + 1 + 1, 0, none⟩ = false := hl1.v.thaw 0
  have hv2 : Bk (w1.setCell ⟨w.heap.size + 1 + 1, 0, none⟩ (.int .i64 m)) (w.heap.size + 1 + 1) 101 #[.int .i64 m, .string ⟨#[]⟩, .slice none 0 0] := hl1.v.put 0 (.int .i64 m)
  have hld := ldV_bk (m := ⟨⟨m, ⟨#[]⟩, []⟩, none, 0, 0⟩) hv2
  have hr2 : Bk (w1.setCell ⟨w.heap.size + 1 + 1, 0, none⟩ (.int .i64 m)) (w.heap.size + 1) 101 #[.int .i64 0, .string ⟨#[]⟩, .slice none 0 0] := hl1.res.far (p := ⟨w.heap.size + 1 + 1, 0, none⟩) (show w.heap.size + 1 ≠ w.heap.size + 1 + 1 by omega) _
  have hst := stV_row _ _ ⟨⟨m, ⟨#[]⟩, []⟩, none, 0, 0⟩ _ hr2 rfl
  have HR2 := Lib.hid hr2
  have HC1 := Lib.hid hc1
  clear hl1 hv2 hr2 hc1 hg1
  go_wp2_with fail
  refine bodyPost_ret (results_cell_row rfl _ _ (w.heap.size + 1) _ _ (0, 0) _ rfl (HR2.out.row _) Tryz.underlying101 rfl size_v) rfl ⟨⟨⟨m, ⟨#[]⟩, []⟩, none, 0, 0⟩, p1, b1, rfl, RdT.nil _, (fun ad h => by cases h), ?_, ?_, hp1, ?_⟩
  · exact (HC1.out.far (by show g ≠ w.heap.size + 1 + 1; omega) _).row_far _ (by omega)
  · exact grown_far (grown_far HG1.out (grown_set _ ⟨w.heap.size + 1 + 1, 0, none⟩ _) (by show _ ≤ w.heap.size + 1 + 1; omega)) (grown_row _ _ _) (by omega)
  · rcases hnr with ⟨r, h1, rfl, rfl, rfl, _⟩ | ⟨h1, h2, rfl, rfl⟩
    · refine .inl ⟨rfl, ?_⟩
      unfold getV
      rw [if_pos rfl]
      simp only [Int.toNat_natCast, h1]
    · refine .inr ⟨h2, ?_⟩
      unfold getV
      rw [if_pos rfl]
      simp only [Int.toNat_natCast, h1]
set_option maxRecDepth 100000 in
set_option maxHeartbeats 2000000 in
theorem value_text (g : Nat) (A : Option Addr) (n c : Nat) (l : List UInt8) (p : Nat) (sz lo hi most : Int) (w : World) (hr : RdB w A n c l) (hc : Cur w g A n c p 0) (hp : p ≤ n) (hlo : 0 ≤ lo) (hlh : lo ≤ hi) (hA : ∀ ad, A = some ad → 0 < n → ad.block ≠ g) (hhi : hi ≤ 65535) :
    Calls Tryz.prog 83 #[.pointer (some ⟨g, 0, none⟩), .agg #[.int .i64 2, .int .i64 sz, .int .i64 lo, .int .i64 hi, .int .i64 most]] w fun e w' => ∃ (m : MVal) (p' : Nat) (b' : Int), e = .returned (.agg #[.int .i64 m.v.n, .string m.v.s, .slice m.A m.n m.c]) ∧ m.ok w' ∧ (∀ ad, m.A = some ad → w.heap.size ≤ ad.block ∧ ad.block < w'.heap.size) ∧ Cur w' g A n c p' b' ∧ w.grownBy w' (some g) ∧ p' ≤ n ∧ ValueR ⟨2, sz, lo, hi, most⟩ l p m.v p' b' := by
  have hlay := lay_made w ⟨2, sz, lo, hi, most⟩
  have hg3 : w.grownBy (((w.alloc (.cells #[.int .i64 2, .int .i64 sz, .int .i64 lo, .int .i64 hi, .int .i64 most] 98)).alloc (.cells #[.int .i64 0, .string ⟨#[]⟩, .slice none 0 0] 101)).alloc (.cells #[.int .i64 0, .string ⟨#[]⟩, .slice none 0 0] 101)) (some g) :=
    (grown_of_below ((((Below.refl w.heap.size w).alloc (Nat.le_refl _) _).alloc (by simp) _).alloc (by simp; omega) _)).but _
  have hbl3 : Below w.heap.size w (((w.alloc (.cells #[.int .i64 2, .int .i64 sz, .int .i64 lo, .int .i64 hi, .int .i64 most] 98)).alloc (.cells #[.int .i64 0, .string ⟨#[]⟩, .slice none 0 0] 101)).alloc (.cells #[.int .i64 0, .string ⟨#[]⟩, .slice none 0 0] 101)) :=
    (((Below.refl w.heap.size w).alloc (Nat.le_refl _) _).alloc (by simp) _).alloc (by simp; omega) _
  have hgl : g < w.heap.size := Bk.lt hc
  have HLay := Lib.hid hlay
  have HG3 := Lib.hid hg3
  have HN := Lib.hid (text_ok g A n c l p lo hi _ (hr.ext hbl3) (Bk.ext hc hbl3) hA hp hlo hlh hhi)
  clear hlay hg3 hbl3
  go_enter Tryz.func83, Tryz.ntmps83
  go_wp2_with fail
  with_reducible refine HN.out.mono ?_
  rintro e w1 ⟨m, p1, b1, rfl, hc1, hg1, hp1, hnr⟩
  have hl1 := HLay.out.grown hg1 hgl
  have HG1 := Lib.hid (HG3.out.trans hg1)
  have cv : w1.cell? ⟨w.heap.size + 1 + 1, 1, none⟩ = some (.string ⟨#[]⟩) := hl1.v.cell 1
  have fv : w1.frozen? ⟨w.heap.size + 1 + 1, 1, none⟩ = false := hl1.v.thaw 1
  have hv2 : Bk (w1.setCell ⟨w.heap.size + 1 + 1, 1, none⟩ (.string m)) (w.heap.size + 1 + 1) 101 #[.int .i64 0, .string m, .slice none 0 0] := hl1.v.put 1 (.string m)
  have hld := ldV_bk (m := ⟨⟨0, m, []⟩, none, 0, 0⟩) hv2
  have hr2 : Bk (w1.setCell ⟨w.heap.size + 1 + 1, 1, none⟩ (.string m)) (w.heap.size + 1) 101 #[.int .i64 0, .string ⟨#[]⟩, .slice none 0 0] := hl1.res.far (p := ⟨w.heap.size + 1 + 1, 1, none⟩) (show w.heap.size + 1 ≠ w.heap.size + 1 + 1 by omega) _
  have hst := stV_row _ _ ⟨⟨0, m, []⟩, none, 0, 0⟩ _ hr2 rfl
  have HR2 := Lib.hid hr2
  have HC1 := Lib.hid hc1
  clear hl1 hv2 hr2 hc1 hg1
  go_wp2_with fail
  refine bodyPost_ret (results_cell_row rfl _ _ (w.heap.size + 1) _ _ (0, 0) _ rfl (HR2.out.row _) Tryz.underlying101 rfl size_v) rfl ⟨⟨⟨0, m, []⟩, none, 0, 0⟩, p1, b1, rfl, RdT.nil _, (fun ad h => by cases h), ?_, ?_, hp1, ?_⟩
  · exact (HC1.out.far (by show g ≠ w.heap.size + 1 + 1; omega) _).row_far _ (by omega)
  · exact grown_far (grown_far HG1.out (grown_set _ ⟨w.heap.size + 1 + 1, 1, none⟩ _) (by show _ ≤ w.heap.size + 1 + 1; omega)) (grown_row _ _ _) (by omega)
  · rcases hnr with ⟨r, h1, rfl, rfl⟩ | ⟨h1, h2⟩
    · refine .inl ⟨rfl, ?_⟩
      unfold getV
      rw [if_neg (show ¬ (2 : Int) = 1 by decide), if_pos rfl]
      simp only [h1]
    · refine .inr ⟨h2, ?_⟩
      unfold getV
      rw [if_neg (show ¬ (2 : Int) = 1 by decide), if_pos rfl]
      simp only [h1]
end Go.Proofs.YtpfdbbcfcimmfaaGreatDoor
