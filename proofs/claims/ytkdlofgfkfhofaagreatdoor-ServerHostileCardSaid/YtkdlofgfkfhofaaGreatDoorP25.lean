import Derived.Test.YtkdlofgfkfhofaaGreatDoorP24
/-
  gram: the cursor's value.
-/
namespace Go.Proofs.YtkdlofgfkfhofaaGreatDoor
open Go.RowKit
attribute [local go_sem ↓] ldV_eq

theorem text_any (g : Nat) (A : Option Addr) (n c : Nat) (l : List UInt8) (p : Nat) (bad lo hi : Int) (w : World) (hr : RdB w A n c l) (hc : Cur w g A n c p bad) (hA : ∀ ad, A = some ad → 0 < n → ad.block ≠ g) (hp : p ≤ n) (hlo : 0 ≤ lo) (hlh : lo ≤ hi) (hhi : hi ≤ 65535) :
    Calls Tryz.prog 186 #[.pointer (some ⟨g, 0, none⟩), .int .i64 lo, .int .i64 hi] w fun e w' => ∃ (s : ByteArray) (p' : Nat) (b' : Int), e = .returned (.string s) ∧ Cur w' g A n c p' b' ∧ w.grownBy w' (some g) ∧ p' ≤ n ∧ ((bad = 0 ∧ TextR lo hi l p s p' b') ∨ (bad ≠ 0 ∧ b' = bad)) := by
  by_cases hb : bad = 0
  · subst hb
    refine (text_ok g A n c l p lo hi w hr hc hA hp hlo hlh hhi).mono ?_
    rintro e w' ⟨s, p', b', h1, h2, h3, h4, h5⟩
    exact ⟨s, p', b', h1, h2, h3, h4, .inl ⟨rfl, h5⟩⟩
  · refine (text_bad g A n c l p bad hb lo hi w hr hc hp hlo hlh hhi).mono ?_
    rintro e w' ⟨h1, h2, h3⟩
    exact ⟨_, p, bad, h1, h2, h3, hp, .inr ⟨hb, rfl⟩⟩
def stV (v u : Value) : Sem Unit := Instr.storeAt 198 v u
theorem stV_eq (v u : Value) : Instr.storeAt 198 v u = stV v u := rfl
theorem one_v (m : MVal) : ∀ u ∈ m.cells, u.oneCell' = true := one_all rfl
theorem stV_row (w : World) (g : Nat) (m : MVal) (old : Array Value) (h : Bk w g 198 old) (ho : old.size = 3) : (stV (.pointer (some ⟨g, 0, none⟩)) (.agg #[.int .i64 m.v.n, .string m.v.s, .slice m.A m.n m.c])).run Tryz.prog w = .ok () (w.setRow g #[.int .i64 m.v.n, .string m.v.s, .slice m.A m.n m.c]) := by
  unfold stV
  simp only [Instr.storeAt, Instr.sureAddr, Sem.run_bind, Sem.run_pure, Result.andThen_ok, run_storeVar_row w g _ _ old #[.int .i64 m.v.n, .string m.v.s, .slice m.A m.n m.c] h size_v (by rw [ho]; rfl) (all_oneCell_toArray (cs := m.cells) (one_v m))]
theorem ldV_bk {w : World} {g : Nat} {m : MVal} (h : Bk w g 198 #[.int .i64 m.v.n, .string m.v.s, .slice m.A m.n m.c]) : (ldV (.pointer (some ⟨g, 0, none⟩))).run Tryz.prog w = .ok (.agg #[.int .i64 m.v.n, .string m.v.s, .slice m.A m.n m.c]) w :=
  ldV_at (fun j u hu => by rw [Nat.zero_add, h.cell, ← hu]; simp [MVal.cells])
theorem Bk.keptG {w w' : World} {g b : Nat} {t : TypeId} {cs : Array Value} (h : Bk w b t cs) (hg : w.grownBy w' (some g)) (hne : b ≠ g) : Bk w' b t cs := by
  have hlt := h.lt
  unfold Bk at h ⊢
  rw [hg.block b hlt (fun e => hne (Option.some.inj e))]
  exact h
theorem grown_far {w w' : World} {g : Nat} (h : w.grownBy w' (some g)) {w'' : World} {b : Nat} (hg : w'.grownBy w'' (some b)) (hb : w.heap.size ≤ b) : w.grownBy w'' (some g) :=
  ⟨hg.os.trans h.os, hg.tape.trans h.tape, hg.output.trans h.output, Nat.le_trans h.size hg.size, fun k hk hne => by
    rw [hg.block k (Nat.lt_of_lt_of_le hk h.size) (fun e => by have := Option.some.inj e; omega)]
    exact h.block k hk hne⟩
attribute [local go_sem ↓] stV_eq
/-- what a value's reading does -/
def ValueR (f : Fld) (l : List UInt8) (p : Nat) (v : Val) (p' : Nat) (b' : Int) : Prop := (b' = 0 ∧ getV f (l.drop p) = .ok (v, l.drop p')) ∨ (b' ≠ 0 ∧ getV f (l.drop p) = .error b')
/-- the three blocks that value lays -/
structure Lay (w : World) (f : Fld) (B : Nat) (m : MVal) : Prop where
  f : Bk w B 193 #[.int .i64 f.kind, .int .i64 f.size, .int .i64 f.lo, .int .i64 f.hi, .int .i64 f.most]
  res : Bk w (B + 1) 198 #[.int .i64 0, .string ⟨#[]⟩, .slice none 0 0]
  v : Bk w (B + 2) 198 #[.int .i64 m.v.n, .string m.v.s, .slice m.A m.n m.c]
def zM : MVal := ⟨⟨0, ⟨#[]⟩, []⟩, none, 0, 0⟩
theorem lay_made (w : World) (f : Fld) : Lay (((w.alloc (.cells #[.int .i64 f.kind, .int .i64 f.size, .int .i64 f.lo, .int .i64 f.hi, .int .i64 f.most] 193)).alloc (.cells #[.int .i64 0, .string ⟨#[]⟩, .slice none 0 0] 198)).alloc (.cells #[.int .i64 0, .string ⟨#[]⟩, .slice none 0 0] 198)) f w.heap.size zM :=
  ⟨((Bk.made w _ _).alloc _).alloc _, (Bk.made_at _ _ _ _ (by simp)).alloc _, Bk.made_at _ _ _ _ (by simp)⟩
theorem Lay.grown {w w' : World} {f : Fld} {B g : Nat} {m : MVal} (h : Lay w f B m) (hg : w.grownBy w' (some g)) (hne : g < B) : Lay w' f B m :=
  ⟨h.f.keptG hg (by omega), h.res.keptG hg (by omega), h.v.keptG hg (by omega)⟩
set_option maxRecDepth 100000 in
set_option maxHeartbeats 2000000 in
theorem value_num (g : Nat) (A : Option Addr) (n c : Nat) (l : List UInt8) (p : Nat) (size : Nat) (sz lo hi most : Int) (hsz : sz = size) (w : World) (hr : RdB w A n c l) (hc : Cur w g A n c p 0) (hp : p ≤ n) (hs : size ≤ 8) (hlo : 0 ≤ lo) (hlh : lo ≤ hi) (hhi : hi ≤ 9223372036854775807) :
    Calls Tryz.prog 131 #[.pointer (some ⟨g, 0, none⟩), .agg #[.int .i64 1, .int .i64 sz, .int .i64 lo, .int .i64 hi, .int .i64 most]] w fun e w' => ∃ (m : MVal) (p' : Nat) (b' : Int), e = .returned (.agg #[.int .i64 m.v.n, .string m.v.s, .slice m.A m.n m.c]) ∧ m.ok w' ∧ (∀ ad, m.A = some ad → w.heap.size ≤ ad.block ∧ ad.block < w'.heap.size) ∧ Cur w' g A n c p' b' ∧ w.grownBy w' (some g) ∧ p' ≤ n ∧ ValueR ⟨1, sz, lo, hi, most⟩ l p m.v p' b' := by
  subst hsz
  have hlay := lay_made w ⟨1, size, lo, hi, most⟩
  have hg3 : w.grownBy (((w.alloc (.cells #[.int .i64 1, .int .i64 size, .int .i64 lo, .int .i64 hi, .int .i64 most] 193)).alloc (.cells #[.int .i64 0, .string ⟨#[]⟩, .slice none 0 0] 198)).alloc (.cells #[.int .i64 0, .string ⟨#[]⟩, .slice none 0 0] 198)) (some g) :=
    (grown_of_below ((((Below.refl w.heap.size w).alloc (Nat.le_refl _) _).alloc (by simp) _).alloc (by simp; omega) _)).but _
  have hbl3 : Below w.heap.size w (((w.alloc (.cells #[.int .i64 1, .int .i64 size, .int .i64 lo, .int .i64 hi, .int .i64 most] 193)).alloc (.cells #[.int .i64 0, .string ⟨#[]⟩, .slice none 0 0] 198)).alloc (.cells #[.int .i64 0, .string ⟨#[]⟩, .slice none 0 0] 198)) :=
    (((Below.refl w.heap.size w).alloc (Nat.le_refl _) _).alloc (by simp) _).alloc (by simp; omega) _
  have hgl : g < w.heap.size := Bk.lt hc
  have HLay := Lib.hid hlay
  have HG3 := Lib.hid hg3
  have HN := Lib.hid (num_r g A n c l p size size lo hi rfl _ (hr.ext hbl3) (Bk.ext hc hbl3) hp hs hlo hlh hhi)
  clear hlay hg3 hbl3
  go_enter Tryz.func131, Tryz.ntmps131
  go_wp2_with fail
  with_reducible refine HN.out.mono ?_
  rintro e w1 ⟨m, p1, b1, rfl, hc1, hg1, hp1, hnr⟩
  have hl1 := HLay.out.grown hg1 hgl
  have HG1 := Lib.hid (HG3.out.trans hg1)
  have cv : w1.cell? ⟨w.heap.size + 1 + 1, 0, none⟩ = some (.int .i64 0) := hl1.v.cell 0
  have fv : w1.frozen? ⟨w.heap.size + 1 + 1, 0, none⟩ = false := hl1.v.thaw 0
  have hv2 : Bk (w1.setCell ⟨w.heap.size + 1 + 1, 0, none⟩ (.int .i64 m)) (w.heap.size + 1 + 1) 198 #[.int .i64 m, .string ⟨#[]⟩, .slice none 0 0] := hl1.v.put 0 (.int .i64 m)
  have hld := ldV_bk (m := ⟨⟨m, ⟨#[]⟩, []⟩, none, 0, 0⟩) hv2
  have hr2 : Bk (w1.setCell ⟨w.heap.size + 1 + 1, 0, none⟩ (.int .i64 m)) (w.heap.size + 1) 198 #[.int .i64 0, .string ⟨#[]⟩, .slice none 0 0] := hl1.res.far (p := ⟨w.heap.size + 1 + 1, 0, none⟩) (show w.heap.size + 1 ≠ w.heap.size + 1 + 1 by omega) _
  have hst := stV_row _ _ ⟨⟨m, ⟨#[]⟩, []⟩, none, 0, 0⟩ _ hr2 rfl
  have HR2 := Lib.hid hr2
  have HC1 := Lib.hid hc1
  clear hl1 hv2 hr2 hc1 hg1
  go_wp2_with fail
  refine bodyPost_ret (results_cell_row rfl _ _ (w.heap.size + 1) _ _ (0, 0) _ rfl (HR2.out.row _) Tryz.underlying198 rfl size_v) rfl ⟨⟨⟨m, ⟨#[]⟩, []⟩, none, 0, 0⟩, p1, b1, rfl, RdT.nil _, (fun ad h => by cases h), ?_, ?_, hp1, ?_⟩
  · exact (HC1.out.far (by show g ≠ w.heap.size + 1 + 1; omega) _).row_far _ (by omega)
  · exact grown_far (grown_far HG1.out (grown_set _ ⟨w.heap.size + 1 + 1, 0, none⟩ _) (by show _ ≤ w.heap.size + 1 + 1; omega)) (grown_row _ _ _) (by omega)
  · rcases hnr with ⟨r, h1, rfl, rfl, rfl, _⟩ | ⟨h1, h2, rfl, rfl⟩
    · refine .inl ⟨rfl, ?_⟩
      unfold getV
      rw [if_pos rfl]
      simp only [Int.toNat_natCast, h1]
    · refine .inr ⟨h2, ?_⟩
      unfold getV
      rw [if_pos rfl]
      simp only [Int.toNat_natCast, h1]
set_option maxRecDepth 100000 in
set_option maxHeartbeats 2000000 in
theorem value_text (g : Nat) (A : Option Addr) (n c : Nat) (l : List UInt8) (p : Nat) (sz lo hi most : Int) (w : World) (hr : RdB w A n c l) (hc : Cur w g A n c p 0) (hp : p ≤ n) (hlo : 0 ≤ lo) (hlh : lo ≤ hi) (hA : ∀ ad, A = some ad → 0 < n → ad.block ≠ g) (hhi : hi ≤ 65535) :
    Calls Tryz.prog 131 #[.pointer (some ⟨g, 0, none⟩), .agg #[.int .i64 2, .int .i64 sz, .int .i64 lo, .int .i64 hi, .int .i64 most]] w fun e w' => ∃ (m : MVal) (p' : Nat) (b' : Int), e = .returned (.agg #[.int .i64 m.v.n, .string m.v.s, .slice m.A m.n m.c]) ∧ m.ok w' ∧ (∀ ad, m.A = some ad → w.heap.size ≤ ad.block ∧ ad.block < w'.heap.size) ∧ Cur w' g A n c p' b' ∧ w.grownBy w' (some g) ∧ p' ≤ n ∧ ValueR ⟨2, sz, lo, hi, most⟩ l p m.v p' b' := by
  have hlay := lay_made w ⟨2, sz, lo, hi, most⟩
  have hg3 : w.grownBy (((w.alloc (.cells #[.int .i64 2, .int .i64 sz, .int .i64 lo, .int .i64 hi, .int .i64 most] 193)).alloc (.cells #[.int .i64 0, .string ⟨#[]⟩, .slice none 0 0] 198)).alloc (.cells #[.int .i64 0, .string ⟨#[]⟩, .slice none 0 0] 198)) (some g) :=
    (grown_of_below ((((Below.refl w.heap.size w).alloc (Nat.le_refl _) _).alloc (by simp) _).alloc (by simp; omega) _)).but _
  have hbl3 : Below w.heap.size w (((w.alloc (.cells #[.int .i64 2, .int .i64 sz, .int .i64 lo, .int .i64 hi, .int .i64 most] 193)).alloc (.cells #[.int .i64 0, .string ⟨#[]⟩, .slice none 0 0] 198)).alloc (.cells #[.int .i64 0, .string ⟨#[]⟩, .slice none 0 0] 198)) :=
    (((Below.refl w.heap.size w).alloc (Nat.le_refl _) _).alloc (by simp) _).alloc (by simp; omega) _
  have hgl : g < w.heap.size := Bk.lt hc
  have HLay := Lib.hid hlay
  have HG3 := Lib.hid hg3
  have HN := Lib.hid (text_ok g A n c l p lo hi _ (hr.ext hbl3) (Bk.ext hc hbl3) hA hp hlo hlh hhi)
  clear hlay hg3 hbl3
  go_enter Tryz.func131, Tryz.ntmps131
  go_wp2_with fail
  with_reducible refine HN.out.mono ?_
  rintro e w1 ⟨m, p1, b1, rfl, hc1, hg1, hp1, hnr⟩
  have hl1 := HLay.out.grown hg1 hgl
  have HG1 := Lib.hid (HG3.out.trans hg1)
  have cv : w1.cell? ⟨w.heap.size + 1 + 1, 1, none⟩ = some (.string ⟨#[]⟩) := hl1.v.cell 1
  have fv : w1.frozen? ⟨w.heap.size + 1 + 1, 1, none⟩ = false := hl1.v.thaw 1
  have hv2 : Bk (w1.setCell ⟨w.heap.size + 1 + 1, 1, none⟩ (.string m)) (w.heap.size + 1 + 1) 198 #[.int .i64 0, .string m, .slice none 0 0] := hl1.v.put 1 (.string m)
  have hld := ldV_bk (m := ⟨⟨0, m, []⟩, none, 0, 0⟩) hv2
  have hr2 : Bk (w1.setCell ⟨w.heap.size + 1 + 1, 1, none⟩ (.string m)) (w.heap.size + 1) 198 #[.int .i64 0, .string ⟨#[]⟩, .slice none 0 0] := hl1.res.far (p := ⟨w.heap.size + 1 + 1, 1, none⟩) (show w.heap.size + 1 ≠ w.heap.size + 1 + 1 by omega) _
  have hst := stV_row _ _ ⟨⟨0, m, []⟩, none, 0, 0⟩ _ hr2 rfl
  have HR2 := Lib.hid hr2
  have HC1 := Lib.hid hc1
  clear hl1 hv2 hr2 hc1 hg1
  go_wp2_with fail
  refine bodyPost_ret (results_cell_row rfl _ _ (w.heap.size + 1) _ _ (0, 0) _ rfl (HR2.out.row _) Tryz.underlying198 rfl size_v) rfl ⟨⟨⟨0, m, []⟩, none, 0, 0⟩, p1, b1, rfl, RdT.nil _, (fun ad h => by cases h), ?_, ?_, hp1, ?_⟩
  · exact (HC1.out.far (by show g ≠ w.heap.size + 1 + 1; omega) _).row_far _ (by omega)
  · exact grown_far (grown_far HG1.out (grown_set _ ⟨w.heap.size + 1 + 1, 1, none⟩ _) (by show _ ≤ w.heap.size + 1 + 1; omega)) (grown_row _ _ _) (by omega)
  · rcases hnr with ⟨r, h1, rfl, rfl⟩ | ⟨h1, h2⟩
    · refine .inl ⟨rfl, ?_⟩
      unfold getV
      rw [if_neg (show ¬ (2 : Int) = 1 by decide), if_pos rfl]
      simp only [h1]
    · refine .inr ⟨h2, ?_⟩
      unfold getV
      rw [if_neg (show ¬ (2 : Int) = 1 by decide), if_pos rfl]
      simp only [h1]
end Go.Proofs.YtkdlofgfkfhofaaGreatDoor

/-
  gram: the cursor's value of texts.
-/
namespace Go.Proofs.YtkdlofgfkfhofaaGreatDoor
open Go.RowKit
attribute [local go_sem ↓] ldV_eq stV_eq

theorem info_s : (Tryz.prog.info? 9).map (fun i => (i.zero, i.size, i.bytes)) = some (some (.string ⟨#[]⟩), 1, 16) := by kernel_rfl
def OwnT (w : World) (B : Nat) (A : Option Addr) (n c : Nat) (l : List ByteArray) : Prop := w.ownsRow B 9 1 (.slice A n c) n (l.map Value.string)
theorem OwnT.reads {w : World} {B : Nat} {A : Option Addr} {n c : Nat} {l : List ByteArray} (h : OwnT w B A n c l) : RdT w A n c l := by
  have hlen : l.length = n := by have := h.1; rw [List.length_map] at this; omega
  rcases h.2 with ⟨hv, h0⟩ | ⟨g, cap, cur, hv, hB, hg, hnc, hcm, hsz, htk⟩
  · injection hv with h1 h2 h3
    subst h1 h3
    obtain rfl : l = [] := List.eq_nil_of_length_eq_zero (by omega)
    subst h0
    exact RdT.nil w
  · injection hv with h1 h2 h3
    subst h1 h3
    refine ⟨by rw [List.length_map, hlen], hnc, by unfold maxLen at hcm; exact hcm, fun i u hu => ⟨_, rfl, (Array.getElem?_eq_some_iff.1 hg).1, ?_⟩⟩
    have hi := (List.getElem?_eq_some_iff.1 hu).1
    rw [List.length_map] at hi
    rw [Addr.add_none, cell_of_row _ _ _ _ _ _ hg, ← hu, ← htk, List.getElem?_take, if_pos (by omega), Array.getElem?_toList, Nat.zero_add]
theorem grown_below {w w' w'' : World} {g B : Nat} (h : w.grownBy w' (some g)) (hb : Below B w' w'') (hB : w.heap.size ≤ B) : w.grownBy w'' (some g) :=
  ⟨hb.os.trans h.os, hb.tape.trans h.tape, hb.output.trans h.output, Nat.le_trans h.size hb.size, fun k hk hne => by
    rw [hb.block k (by omega)]
    exact h.block k hk hne⟩
theorem getTs_succ (most : Int) (k : Nat) (bs : List UInt8) : getTs most (k + 1) bs = (match getT 0 most bs with
    | .error e => .error e
    | .ok (s, r) => match getTs most k r with
      | .error e => .error e
      | .ok (l, r') => .ok (s :: l, r')) := rfl
/-- the state of the loop over texts -/
def TsR (f : Fld) (l : List UInt8) (p cnt k : Nat) (L : List ByteArray) (pj : Nat) (bj : Int) : Prop :=
  (bj = 0 ∧ getV f (l.drop p) = (match getTs f.most (cnt - k) (l.drop pj) with | .ok (L2, r) => .ok (⟨0, ⟨#[]⟩, L ++ L2⟩, r) | .error e => .error e)) ∨ (bj ≠ 0 ∧ getV f (l.drop p) = .error bj)
theorem TsR.next {f : Fld} {l : List UInt8} {p cnt k : Nat} {L : List ByteArray} {pj p' : Nat} {bj b' : Int} {s : ByteArray} (h : TsR f l p cnt k L pj bj) (hk : k < cnt) (ht : (bj = 0 ∧ TextR 0 f.most l pj s p' b') ∨ (bj ≠ 0 ∧ b' = bj)) :
    TsR f l p cnt (k + 1) (L ++ [s]) p' b' := by
  rcases h with ⟨h0, h1⟩ | ⟨h0, h1⟩
  · rcases ht with ⟨_, ht⟩ | ⟨hn, _⟩
    · have e : cnt - k = (cnt - (k + 1)) + 1 := by omega
      rw [e, getTs_succ] at h1
      rcases ht with ⟨r, h2, rfl, rfl⟩ | ⟨h2, h3⟩
      · rw [h2] at h1
        simp only at h1
        refine .inl ⟨rfl, ?_⟩
        rw [h1]
        cases getTs f.most (cnt - (k + 1)) (l.drop p') with
        | ok x => simp
        | error e => rfl
      · rw [h2] at h1
        exact .inr ⟨h3, h1⟩
    · exact absurd h0 hn
  · rcases ht with ⟨hn, _⟩ | ⟨_, rfl⟩
    · exact absurd hn h0
    · exact .inr ⟨h0, h1⟩
theorem TsR.start {sz lo hi most : Int} {l : List UInt8} {p cnt p1 : Nat} {b1 : Int} (h : NumR 1 lo hi l p cnt p1 b1) : TsR ⟨3, sz, lo, hi, most⟩ l p cnt 0 [] p1 b1 := by
  rcases h with ⟨r, h1, rfl, rfl, _⟩ | ⟨h1, h2, h3, _⟩
  · refine .inl ⟨rfl, ?_⟩
    unfold getV
    rw [if_neg (show ¬ (3 : Int) = 1 by decide), if_neg (show ¬ (3 : Int) = 2 by decide)]
    simp only [h1, Int.toNat_natCast, Nat.sub_zero]
    cases getTs most cnt (l.drop p1) with
    | ok x => simp
    | error e => rfl
  · refine .inr ⟨h2, ?_⟩
    unfold getV
    rw [if_neg (show ¬ (3 : Int) = 1 by decide), if_neg (show ¬ (3 : Int) = 2 by decide)]
    simp only [h1]
theorem TsR.done {f : Fld} {l : List UInt8} {p cnt : Nat} {L : List ByteArray} {pj : Nat} {bj : Int} (h : TsR f l p cnt cnt L pj bj) : ValueR f l p ⟨0, ⟨#[]⟩, L⟩ pj bj := by
  rcases h with ⟨h0, h1⟩ | ⟨h0, h1⟩
  · refine .inl ⟨h0, ?_⟩
    rw [h1, Nat.sub_self]
    show Except.ok (_, _) = _
    rw [List.append_nil]
  · exact .inr ⟨h0, h1⟩
theorem Lay.below {w w' : World} {f : Fld} {G B : Nat} {m : MVal} (h : Lay w f G m) (hb : Below B w w') (hB : G + 3 ≤ B) : Lay w' f G m :=
  ⟨h.f.below hb (by omega), h.res.below hb (by omega), h.v.below hb (by omega)⟩
theorem Lay.drew1 {w : World} {f : Fld} {G : Nat} {m : MVal} (h : Lay w f G m) : Lay w.drew f G m := ⟨h.f, h.res, h.v⟩
theorem Lay.setV {w : World} {f : Fld} {G : Nat} {L : List ByteArray} {A3 : Option Addr} {k c3 : Nat} (h : Lay w f G ⟨⟨0, ⟨#[]⟩, L⟩, A3, k, c3⟩) (L' : List ByteArray) (A' : Option Addr) (n' c' : Nat) : Lay (w.setCell ⟨G + 1 + 1, 2, none⟩ (.slice A' n' c')) f G ⟨⟨0, ⟨#[]⟩, L'⟩, A', n', c'⟩ :=
  ⟨h.f.far (p := ⟨G + 1 + 1, 2, none⟩) (show G ≠ G + 1 + 1 by omega) _, h.res.far (p := ⟨G + 1 + 1, 2, none⟩) (show G + 1 ≠ G + 1 + 1 by omega) _, h.v.put 2 (.slice A' n' c')⟩
theorem own_not {w : World} {B t k n c g : Nat} {A : Option Addr} {xs : List Value} (h : w.ownsRow B t k (.slice A n c) n xs) (hg : g < B) : (Value.slice A n c).ownBlock ≠ some g := fun e => by have := (World.ownsRow.lt h g e).1; omega
theorem Lay.alloc {w : World} {f : Fld} {G : Nat} {m : MVal} (h : Lay w f G m) (o : Obj) : Lay (w.alloc o) f G m := ⟨h.f.alloc o, h.res.alloc o, h.v.alloc o⟩
set_option maxRecDepth 100000 in
set_option maxHeartbeats 4000000 in
theorem value_texts (g : Nat) (A : Option Addr) (n c : Nat) (l : List UInt8) (p : Nat) (sz lo hi most : Int) (w : World) (hr : RdB w A n c l) (hc : Cur w g A n c p 0) (hp : p ≤ n) (hlo : 0 ≤ lo) (hlh : lo ≤ hi) (hA : ∀ ad, A = some ad → 0 < n → ad.block ≠ g) (hhi : hi ≤ 255) (hm0 : 0 ≤ most) (hm1 : most ≤ 65535) :
    Calls Tryz.prog 131 #[.pointer (some ⟨g, 0, none⟩), .agg #[.int .i64 3, .int .i64 sz, .int .i64 lo, .int .i64 hi, .int .i64 most]] w fun e w' => ∃ (m : MVal) (p' : Nat) (b' : Int), e = .returned (.agg #[.int .i64 m.v.n, .string m.v.s, .slice m.A m.n m.c]) ∧ m.ok w' ∧ (∀ ad, m.A = some ad → w.heap.size ≤ ad.block ∧ ad.block < w'.heap.size) ∧ Cur w' g A n c p' b' ∧ w.grownBy w' (some g) ∧ p' ≤ n ∧ ValueR ⟨3, sz, lo, hi, most⟩ l p m.v p' b' := by
  obtain ⟨ii, hi0, hz0, hs0, hb0⟩ := info_parts info_s
  have hlay := lay_made w ⟨3, sz, lo, hi, most⟩
  have hbl3 : Below w.heap.size w (((w.alloc (.cells #[.int .i64 3, .int .i64 sz, .int .i64 lo, .int .i64 hi, .int .i64 most] 193)).alloc (.cells #[.int .i64 0, .string ⟨#[]⟩, .slice none 0 0] 198)).alloc (.cells #[.int .i64 0, .string ⟨#[]⟩, .slice none 0 0] 198)) :=
    (((Below.refl w.heap.size w).alloc (Nat.le_refl _) _).alloc (by simp) _).alloc (by simp; omega) _
  have hg3 := (grown_of_below hbl3).but (some g)
  have hgl : g < w.heap.size := Bk.lt hc
  have hs3 : w.heap.size + 3 ≤ (((w.alloc (.cells #[.int .i64 3, .int .i64 sz, .int .i64 lo, .int .i64 hi, .int .i64 most] 193)).alloc (.cells #[.int .i64 0, .string ⟨#[]⟩, .slice none 0 0] 198)).alloc (.cells #[.int .i64 0, .string ⟨#[]⟩, .slice none 0 0] 198)).heap.size := by simp
  have HLay := Lib.hid hlay
  have HG3 := Lib.hid hg3
  have HS3 := Lib.hid hs3
  have HRd := Lib.hid hr
  have HI := Lib.hid hi0
  have HZ := Lib.hid hz0
  have HS := Lib.hid hs0
  have HB := Lib.hid hb0
  have HN := Lib.hid (num_r g A n c l p 1 1 lo hi rfl _ (hr.ext hbl3) (Bk.ext hc hbl3) hp (by omega) hlo hlh (by omega))
  clear hlay hg3 hbl3 hi0 hz0 hs0 hb0 hs3 hr
  go_enter Tryz.func131, Tryz.ntmps131
  go_wp2_with fail
  with_reducible refine HN.out.mono ?_
  rintro e w1 ⟨m, p1, b1, rfl, hc1, hg1, hp1, hnr⟩
  have hm : 0 ≤ m ∧ m ≤ 255 := by rcases hnr with ⟨r, _, _, _, _, h1, h2⟩ | ⟨_, _, h1, _⟩ <;> omega
  obtain ⟨cnt, rfl⟩ := Int.eq_ofNat_of_zero_le hm.1
  have Hl1 := Lib.hid (HLay.out.grown hg1 hgl)
  have HG1 := Lib.hid (HG3.out.trans hg1)
  have HC1 := Lib.hid hc1
  have HSz := Lib.hid (Nat.le_trans HS3.out hg1.size)
  have HT0 := Lib.hid (TsR.start (sz := sz) (most := most) hnr)
  clear hc1 hg1 hnr HLay HN
  go_wp2_with fail
  go_loopw [36] (fun i wr => ∃ (k : Nat) (L : List ByteArray) (A3 : Option Addr) (c3 pj : Nat) (bj : Int), k ≤ cnt ∧ i = .int .i64 k ∧ Hid (Lay wr ⟨3, sz, lo, hi, most⟩ w.heap.size ⟨⟨0, ⟨#[]⟩, L⟩, A3, k, c3⟩) ∧ Hid (OwnT wr (w.heap.size + 3) A3 k c3 L) ∧ Hid (Cur wr g A n c pj bj) ∧ Hid (w.grownBy wr (some g)) ∧ pj ≤ n ∧ Hid (w.heap.size + 3 ≤ wr.heap.size) ∧ Hid (TsR ⟨3, sz, lo, hi, most⟩ l p cnt k L pj bj)) (fun i _ => cnt - (intOf i).toNat)
  case atStart => exact ⟨0, [], none, 0, p1, b1, Nat.zero_le _, rfl, Hl1.out, World.ownsRow_nil _ _ _ _, HC1.out, HG1.out, hp1, HSz.out, HT0.out⟩
  case round =>
    obtain ⟨k, L, A3, c3, pj, bj, hk, rfl, hLay, hOwn, hCur, hGr, hpj, hSz, hTs⟩ := hrel
    by_cases hlt : k < cnt
    · have hc255 : cnt ≤ 255 := by omega
      have hi : (k : Int) < cnt := by omega
      have hT := Lib.hid (text_any g A n c l pj bj 0 most wr.drew (RdB.grown HRd.out (hGr.out.trans ((grown_of_below (below_drew1 (Below.refl _ _))).but _)) hA) (Bk.drawn1 hCur.out) hA hpj (by omega) hm0 hm1)
      have d2 : wr.cell? ⟨w.heap.size + 1 + 1, 2, none⟩ = some (.slice A3 k c3) := hLay.out.v.cell 2
      have d4 : wr.cell? ⟨w.heap.size, 4, none⟩ = some (.int .i64 most) := hLay.out.f.cell 4
      have hgl3 : ∀ j, (Value.slice A3 k c3).ownBlock = some j → w.heap.size + 3 ≤ j := fun j hj => (World.ownsRow.lt hOwn.out j hj).1
      have HGL := Lib.hid hgl3
      clear hgl3
      go_wp2_with fail
      go_region_law (first | ((refine step_append_gen (by rfl) (.tmp 39) (.tmp 44) 28 (by rfl) 9 ii _ 1 16 Tryz.underlying28 HI.out HZ.out HS.out HB.out (by rfl) (by omega) (w.heap.size + 3) (w5.alloc (.cells #[.string s5] 9)) _ k (L.map Value.string) (by rfl) (World.ownsRow.alloc HO5.out _) ⟨w5.heap.size, 0, none⟩ 1 1 [.string s5] (by rfl) (by rfl) (cells_newm w5 _ (0, 0) _ _ rfl _ rfl) (one_all rfl) (by unfold maxLen; omega) (by omega) (Below.refl _ _) (by simp; have := HS5.out; omega) (k + 1) rfl ?_; intro A6 c6 w6 ho6 hg6 hb6 hs6; have hl6 := Lib.hid ((Lay.alloc HL5.out _).below hb6 (Nat.le_refl _)); have g2 : w6.cell? ⟨w.heap.size + 1 + 1, 2, none⟩ = some (.slice A3 k c3) := hl6.out.v.cell 2; have gf : w6.frozen? ⟨w.heap.size + 1 + 1, 2, none⟩ = false := hl6.out.v.thaw 2)) | (go_simp; go_at_call 186; (with_reducible refine hT.out.mono ?_); rintro e w5 ⟨s5, p5, b5, rfl, hc5, hg5, hp5, hr5⟩; have HL5 := Lib.hid (hLay.out.drew1.grown hg5 hgl); have e2 : w5.cell? ⟨w.heap.size + 1 + 1, 2, none⟩ = some (.slice A3 k c3) := HL5.out.v.cell 2; have e3 : (w5.alloc (.cells #[.string s5] 9)).cell? ⟨w.heap.size + 1 + 1, 2, none⟩ = some (.slice A3 k c3) := (Lay.alloc HL5.out _).v.cell 2; have HO5 := Lib.hid (World.ownsRow.kept (show OwnT wr.drew (w.heap.size + 3) A3 k c3 L from hOwn.out) hg5 (.inr (fun e => by have := HGL.out g e; omega))); have HS5 := Lib.hid (Nat.le_trans hSz.out hg5.size); have HC5 := Lib.hid hc5; have HG5 := Lib.hid hg5; have HR5 := Lib.hid hr5; clear hc5 hg5 hr5) | fail)
      all_goals
        go_wp2_with fail
        have k1 : w.grownBy w5 (some g) := (hGr.out.trans ((grown_of_below (below_drew1 (Below.refl _ _))).but _)).trans HG5.out
        have k2 := grown_below k1 (below_new w5 (.cells #[.string s5] 9)) (by have := HS5.out; omega)
        have k3 := grown_below k2 hb6 (by omega)
        have k4 := grown_far k3 (grown_set w6 ⟨w.heap.size + 1 + 1, 2, none⟩ (.slice A6 (k + 1) c6)) (by show w.heap.size ≤ w.heap.size + 1 + 1; omega)
        have j1 : OwnT w6 (w.heap.size + 3) A6 (k + 1) c6 (L ++ [s5]) := by
          unfold OwnT
          rw [List.map_append]
          exact ho6.out
        have j2 : OwnT (w6.setCell ⟨w.heap.size + 1 + 1, 2, none⟩ (.slice A6 (k + 1) c6)) (w.heap.size + 3) A6 (k + 1) c6 (L ++ [s5]) := World.ownsRow.kept j1 (grown_set w6 ⟨w.heap.size + 1 + 1, 2, none⟩ (.slice A6 (k + 1) c6)) (.inr (own_not j1 (show w.heap.size + 1 + 1 < w.heap.size + 3 by omega)))
        have j3 : Cur (w6.setCell ⟨w.heap.size + 1 + 1, 2, none⟩ (.slice A6 (k + 1) c6)) g A n c p5 b5 := Bk.far (p := ⟨w.heap.size + 1 + 1, 2, none⟩) (Bk.below (Bk.alloc HC5.out _) hb6 (by omega)) (show g ≠ w.heap.size + 1 + 1 by omega) _
        exact ⟨⟨k + 1, L ++ [s5], A6, c6, p5, b5, by omega, by go_num, hl6.out.setV _ _ _ _, j2, j3, k4, hp5, by show w.heap.size + 3 ≤ _; simpa [World.setCell] using hs6.out, hTs.out.next hlt HR5.out⟩, by simp [intOf]; omega⟩
    · obtain rfl : k = cnt := by omega
      have hld := ldV_bk (m := ⟨⟨0, ⟨#[]⟩, L⟩, A3, k, c3⟩) hLay.out.v
      have hst := stV_row _ _ ⟨⟨0, ⟨#[]⟩, L⟩, A3, k, c3⟩ _ hLay.out.res rfl
      have hok := Lib.hid hOwn.out.reads
      go_wp2_with fail
      refine bodyPost_ret (results_cell_row rfl _ _ (w.heap.size + 1) _ _ (0, 0) _ rfl (hLay.out.res.row _) Tryz.underlying198 rfl size_v) rfl ⟨⟨⟨0, ⟨#[]⟩, L⟩, A3, k, c3⟩, rfl, ?_, ?_, pj, bj, hCur.out.row_far _ (by omega), grown_far hGr.out (grown_row _ _ _) (by omega), hpj, hTs.out.done⟩
      · exact OwnT.reads (World.ownsRow.kept hOwn.out (grown_row _ _ _) (.inr (own_not hOwn.out (by omega))))
      · intro ad had
        have had : A3 = some ad := had
        subst had
        have := World.ownsRow.lt hOwn.out ad.block (by simp [Value.ownBlock])
        exact ⟨by omega, by simpa [World.setRow] using this.2⟩
end Go.Proofs.YtkdlofgfkfhofaaGreatDoor
