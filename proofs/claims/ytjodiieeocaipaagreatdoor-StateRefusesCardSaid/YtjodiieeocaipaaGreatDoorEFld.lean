/-
  entry: name, number, fields.
-/
import Derived.Test.YtjodiieeocaipaaGreatDoorEBats
import Derived.Laws.Tables
namespace Go.Proofs.YtjodiieeocaipaaGreatDoor
open Go.RowKit
attribute [local go_sem ↓] ldF_eq stF_eq

def zF : Array Value := #[.int .i64 0, .int .i64 0, .int .i64 0, .int .i64 0, .int .i64 0]
theorem info_f : (Tryz.prog.info? 154).map (fun i => (i.zero, i.size, i.bytes)) = some (some (.agg zF), 5, 40) := by kernel_rfl
set_option maxRecDepth 100000 in
theorem name_fld (w w0 : World) (B : Nat) (hb : Below B w0 w) (hB : B ≤ w.heap.size) :
    Calls Tryz.prog 75 #[] w fun e w' => e = .returned (.agg #[.int .i64 2, .int .i64 0, .int .i64 1, .int .i64 24, .int .i64 0]) ∧ Below B w0 w' ∧ B ≤ w'.heap.size := by
  have hst := stF_new w (sF 1 24)
  have hb1 := hb.alloc hB (.cells #[.int .i64 2, .int .i64 0, .int .i64 1, .int .i64 24, .int .i64 0] 154)
  have hbk := Bk.made w 154 #[.int .i64 2, .int .i64 0, .int .i64 1, .int .i64 24, .int .i64 0]
  have HB := Lib.hid hb1
  have HK := Lib.hid hbk
  clear hb1 hbk
  simp only [sF] at hst
  go_enter Tryz.func75, Tryz.ntmps75
  go_wp2
  refine bodyPost_ret (results_cell_row rfl _ _ w.heap.size _ _ (0, 0) _ rfl HK.out Tryz.underlying154 rfl size_f) rfl ⟨rfl, HB.out, by simp; omega⟩
set_option maxRecDepth 100000 in
theorem number_fld (size lo hi : Int) (w w0 : World) (B : Nat) (hb : Below B w0 w) (hB : B ≤ w.heap.size) :
    Calls Tryz.prog 74 #[.int .i64 size, .int .i64 lo, .int .i64 hi] w fun e w' => e = .returned (.agg #[.int .i64 1, .int .i64 size, .int .i64 lo, .int .i64 hi, .int .i64 0]) ∧ Below B w0 w' ∧ B ≤ w'.heap.size := by
  have hst := stF_new w (nF size lo hi)
  have hb1 := hb.alloc hB (.cells #[.int .i64 1, .int .i64 size, .int .i64 lo, .int .i64 hi, .int .i64 0] 154)
  have hbk := Bk.made w 154 #[.int .i64 1, .int .i64 size, .int .i64 lo, .int .i64 hi, .int .i64 0]
  have HB := Lib.hid hb1
  have HK := Lib.hid hbk
  clear hb1 hbk
  simp only [nF] at hst
  go_enter Tryz.func74, Tryz.ntmps74
  go_wp2
  refine bodyPost_ret (results_cell_row rfl _ _ w.heap.size _ _ (0, 0) _ rfl HK.out Tryz.underlying154 rfl size_f) rfl ⟨rfl, HB.out, by simp; omega⟩
theorem stF_row (w : World) (g : Nat) (f : Fld) (old : Array Value) (h : Bk w g 154 old) (ho : old.size = 5) : (stF (.pointer (some ⟨g, 0, none⟩)) (.agg #[.int .i64 f.kind, .int .i64 f.size, .int .i64 f.lo, .int .i64 f.hi, .int .i64 f.most])).run Tryz.prog w = .ok () (w.setRow g #[.int .i64 f.kind, .int .i64 f.size, .int .i64 f.lo, .int .i64 f.hi, .int .i64 f.most]) := by
  unfold stF
  simp only [Instr.storeAt, Instr.sureAddr, Sem.run_bind, Sem.run_pure, Result.andThen_ok, run_storeVar_row w g _ _ old #[.int .i64 f.kind, .int .i64 f.size, .int .i64 f.lo, .int .i64 f.hi, .int .i64 f.most] h size_f (by rw [ho]; rfl) (all_oneCell_toArray (cs := f.cells) (one_f f))]
theorem Bk.row {w : World} {g : Nat} {t : TypeId} {o : Array Value} (h : Bk w g t o) (c : Array Value) : Bk (w.setRow g c) g t c := by
  unfold Bk at h ⊢
  exact setRow_heap w g o c t _ h
theorem Bk.row_far {w : World} {g g' : Nat} {t : TypeId} {o : Array Value} (h : Bk w g t o) (c : Array Value) (hg : g ≠ g') : Bk (w.setRow g' c) g t o := by
  unfold Bk at h ⊢
  rw [setRow_other w g' g c hg]
  exact h
theorem grown_row (w : World) (g : Nat) (c : Array Value) : w.grownBy (w.setRow g c) (some g) :=
  ⟨rfl, rfl, rfl, by simp, fun k _ hk => setRow_other w g k c (fun e => hk (by rw [e]))⟩
theorem below_row {B : Nat} {w0 w : World} (h : Below B w0 w) (hB : B ≤ w.heap.size) {g : Nat} (hg : B ≤ g) (c : Array Value) : Below B w0 (w.setRow g c) := below_grown h hB (grown_row w g c) hg
theorem ldF_bk {w : World} {g : Nat} {f : Fld} (h : Bk w g 154 #[.int .i64 f.kind, .int .i64 f.size, .int .i64 f.lo, .int .i64 f.hi, .int .i64 f.most]) : (ldF (.pointer (some ⟨g, 0, none⟩))).run Tryz.prog w = .ok (.agg #[.int .i64 f.kind, .int .i64 f.size, .int .i64 f.lo, .int .i64 f.hi, .int .i64 f.most]) w :=
  ldF_at (fun j u hu => by rw [Nat.zero_add, h.cell, ← hu]; simp [Fld.cells])
/-- append onto a row of the call's own, at a step of a region that draws its order -/
theorem step_append_gen {P : Program} {ops : Array Oper} {o : Oper} {a : Act} {w : World} {K : Act → World → Prop} {Q : Exit → Act → World → Prop} {E : Prop} (hgd : o.guard = none) (s x : Operand) (t : TypeId)
    (ho : o.op = .call { callee := .builtin .append, args := #[s, x], argTypes := #[t, t] })
    (e : TypeId) (i : TypeInfo) (z : Value) (size bytes : Nat) (ht : P.underlying t = some (.slice e)) (hi : P.info? e = some i) (hz : i.zero = some z)
    (hsize : i.size = size) (hby : i.bytes = bytes) (hzs : z.cells.size = size) (hsz : 0 < size) (B : Nat) (w0 : World)
    (v : Value) (n : Nat) (xs : List Value) (hs : a.eval s = v) (hown : w.ownsRow B e size v n xs)
    (ad : Addr) (m c : Nat) (news : List Value) (hx : a.eval x = .slice (some ad) m c) (hl : news.length = m * size) (hnews : ∀ j u, news[j]? = some u → w.cell? (ad.add j) = some u) (h1 : ∀ u ∈ news, u.oneCell' = true)
    (h63 : n + m ≤ maxLen) (hbytes : (n + m) * bytes ≤ 140737488355328) (hb : Below B w0 w) (hB : B ≤ w.heap.size) (N : Nat) (hN : N = n + m)
    (h : ∀ A' c' w', Hid (w'.ownsRow B e size (.slice A' N c') N (xs ++ news)) → Hid (w.grownBy w' v.ownBlock) → Below B w0 w' → Hid (B ≤ w'.heap.size) →
      K (a.put o.dst (.slice A' N c')) w') :
    if Region.wanted o (yielded ops a.tmps) = true then Oper.wp P o a w K Q else E := by
  have hw : Region.wanted o (yielded ops a.tmps) = true := by simp [Region.wanted, hgd]
  rw [if_pos hw]
  subst hN
  obtain ⟨v', w', hrun, h2, h3, _, h5⟩ := run_append_own_at (P := P) w B t o.type e i z size bytes ht hi hz hsize hby hzs hsz v n xs hown ad m c news hl hnews h1 h63 hbytes hB
  obtain ⟨A', c', rfl⟩ : ∃ A' c', v' = .slice A' (n + m) c' := by
    rcases h2.2 with ⟨rfl, h0⟩ | ⟨g, cap, cur, rfl, _⟩
    · exact ⟨none, 0, by rw [h0]⟩
    · exact ⟨_, _, rfl⟩
  unfold Oper.wp execOp
  simp only [ho, resolve, invoke, builtin, Sem.run_bind, Sem.run_pure, Result.andThen_ok, List.map_toArray, List.map_cons, List.map_nil, hs, hx, hrun]
  exact h A' c' w' h2 h3 (hb.grown h3 hB fun k hk => (World.ownsRow.lt hown k hk).1) (Nat.le_trans hB h3.size)
theorem cells_newm (w : World) (t : TypeId) (fr : Nat × Nat) (cs : Array Value) (news : List Value) (h : cs = news.toArray) (g : Nat) (hg : g = w.heap.size) : ∀ j u, news[j]? = some u → (w.alloc (.cells cs t fr)).cell? ((⟨g, 0, none⟩ : Addr).add j) = some u := by
  intro j u hu
  subst h hg
  rw [Addr.add_none, cell_of_row _ _ _ _ _ _ (heap_alloc_new w _), ← hu]
  simp
/-- what fields hands back of a kind -/
def FldR (k : Int) (w' : World) (v : Value) : Prop := ∃ A n c, v = .slice A n c ∧ RdF w' A n c (fldsE k) ∧ n ≤ 100 ∧ A.isSome = decide (1 ≤ k ∧ k ≤ 5)
theorem fldR_bk {k : Int} {w' : World} {g : Nat} {t : TypeId} {cs : Array Value} {n : Nat} (hb : Bk w' g t cs) (hc : cs = ((fldsE k).flatMap Fld.cells).toArray) (hn : (fldsE k).length = n) (hn' : n ≤ 100) (hk : decide (1 ≤ k ∧ k ≤ 5) = true) : FldR k w' (.slice (some ⟨g, 0, none⟩) n n) :=
  ⟨_, n, n, rfl, RdK.of_bk hb Fld.cells f5 (fldsE k) hc n n hn (Nat.le_refl _) (by omega), hn', by rw [hk]; rfl⟩
theorem fldR_own {k : Int} {w' : World} {B : Nat} {t : TypeId} {A : Option Addr} {n c : Nat} {xs : List Value} (ho : w'.ownsRow B t 5 (.slice A n c) n xs) (hx : xs = (fldsE k).flatMap Fld.cells) (hn : 0 < n) (hn' : n ≤ 100) (hk : decide (1 ≤ k ∧ k ≤ 5) = true) : FldR k w' (.slice A n c) := by
  refine ⟨A, n, c, rfl, ?_, hn', ?_⟩
  · subst hx
    exact RdK.of_own Fld.cells f5 (by omega) (fldsE k) ho
  · rw [hk]
    rcases ho.2 with ⟨_, h0⟩ | ⟨g, cap, cur, hv, _⟩
    · omega
    · injection hv with h1 h2 h3
      subst h1
      rfl
theorem name_fld2 (w w0 : World) (B : Nat) (hb : Below B w0 w.drew) (hB : B ≤ w.drew.heap.size) :
    Calls Tryz.prog 75 #[] w.drew fun e w' => e = .returned (.agg #[.int .i64 2, .int .i64 0, .int .i64 1, .int .i64 24, .int .i64 0]) ∧ Below w.heap.size w w' ∧ Below B w0 w' ∧ B ≤ w'.heap.size := by
  refine (name_fld w.drew w w.heap.size (below_drew1 (Below.refl _ _)) (Nat.le_refl _)).mono ?_
  rintro e w' ⟨rfl, h1, _⟩
  have h2 : Below w.drew.heap.size w.drew w' := ⟨h1.os, h1.tape, h1.output, h1.size, h1.block⟩
  exact ⟨rfl, h1, hb.trans (below_le hB h2), Nat.le_trans hB h1.size⟩
/-- the two fields that fields lays first -/
structure Two (w' : World) (B : Nat) (w0 : World) (N : Nat) : Prop where
  part : Bk w' N 154 #[.int .i64 1, .int .i64 1, .int .i64 0, .int .i64 3, .int .i64 0]
  off : Bk w' (N + 1) 154 #[.int .i64 1, .int .i64 8, .int .i64 0, .int .i64 9223372036854775807, .int .i64 0]
  below : Below B w0 w'
  size : B ≤ w'.heap.size
theorem two_made {w2 w0 : World} {B : Nat} (hb2 : Below B w0 w2) (hB2 : B ≤ w2.heap.size) :
    Two ((((w2.alloc (.cells #[.int .i64 0, .int .i64 0, .int .i64 0, .int .i64 0, .int .i64 0] 154)).alloc (.cells #[.int .i64 0, .int .i64 0, .int .i64 0, .int .i64 0, .int .i64 0] 154)).setRow w2.heap.size #[.int .i64 1, .int .i64 1, .int .i64 0, .int .i64 3, .int .i64 0]).setRow (w2.heap.size + 1) #[.int .i64 1, .int .i64 8, .int .i64 0, .int .i64 9223372036854775807, .int .i64 0]) B w0 w2.heap.size := by
  have q1 : Bk ((w2.alloc (.cells zF 154)).alloc (.cells zF 154)) w2.heap.size 154 zF := (Bk.made w2 _ zF).alloc _
  have q2 : Bk ((w2.alloc (.cells zF 154)).alloc (.cells zF 154)) (w2.heap.size + 1) 154 zF := Bk.made_at (w2.alloc (.cells zF 154)) _ _ zF (by simp)
  have b1 := (hb2.alloc hB2 (.cells zF 154)).alloc (by simp; omega) (.cells zF 154)
  have b2 := below_row b1 (by simp; omega) hB2 #[.int .i64 1, .int .i64 1, .int .i64 0, .int .i64 3, .int .i64 0]
  have b3 := below_row b2 (by simp [World.setRow]; omega) (show B ≤ w2.heap.size + 1 by omega) #[.int .i64 1, .int .i64 8, .int .i64 0, .int .i64 9223372036854775807, .int .i64 0]
  exact ⟨(q1.row _).row_far _ (by omega), (q2.row_far _ (by omega)).row _, b3, by simp [World.setRow]; omega⟩
set_option maxRecDepth 100000 in
set_option maxHeartbeats 4000000 in
theorem fields_any (k : Int) (w w0 : World) (B : Nat) (hb : Below B w0 w) (hB : B ≤ w.heap.size) :
    Calls Tryz.prog 45 #[.int .i64 k] w fun e w' => ∃ v, e = .returned v ∧ FldR k w' v ∧ Below B w0 w' := by
  obtain ⟨ii, hi0, hz0, hs0, hb0⟩ := info_parts info_f
  have hk : k = 1 ∨ k = 2 ∨ k = 3 ∨ k = 4 ∨ k = 5 ∨ ((k == 1) = false ∧ (k == 2) = false ∧ (k == 3) = false ∧ (k == 4) = false ∧ (k == 5) = false) := by
    simp only [beq_eq_false_iff_ne]
    omega
  have HN1 := Lib.hid (number_fld 1 0 3 w w0 B hb hB)
  have HI := Lib.hid hi0
  have HZ := Lib.hid hz0
  have HS := Lib.hid hs0
  have HB := Lib.hid hb0
  clear hb hB hi0 hz0 hs0 hb0
  rcases hk with rfl | rfl | rfl | rfl | rfl | ⟨k1, k2, k3, k4, k5⟩
  all_goals
    go_enter Tryz.func45, Tryz.ntmps45
    go_wp2_with fail
    refine HN1.out.mono ?_
    rintro e w1 ⟨rfl, hb1, hB1⟩
    have HN2 := Lib.hid (number_fld 8 0 9223372036854775807 w1 w0 B hb1 hB1)
    clear hb1 hB1
    go_wp2_with fail
    refine HN2.out.mono ?_
    rintro e w2 ⟨rfl, hb2, hB2⟩
    have q1 : Bk ((w2.alloc (.cells zF 154)).alloc (.cells zF 154)) w2.heap.size 154 zF := (Bk.made w2 _ zF).alloc _
    have q2 : Bk ((w2.alloc (.cells zF 154)).alloc (.cells zF 154)) (w2.heap.size + 1) 154 zF := Bk.made_at (w2.alloc (.cells zF 154)) _ _ zF (by simp)
    have hst1 := stF_row _ _ (nF 1 0 3) _ q1 rfl
    have q3 := q2.row_far #[.int .i64 1, .int .i64 1, .int .i64 0, .int .i64 3, .int .i64 0] (g' := w2.heap.size) (by omega)
    have hst2 := stF_row _ _ (nF 8 0 9223372036854775807) _ q3 rfl
    simp only [nF, zF] at hst1 hst2
    have HT := Lib.hid (two_made hb2 hB2)
    clear q1 q2 q3 hb2 hB2
    go_wp2_with fail
  · refine wp_cut (fun w' => Two w' B w0 w2.heap.size) HT.out ?_
    clear HT hst1 hst2
    rintro w3 ht
    have FS : Hid (∀ w', Below w3.heap.size w3 w' → (Below w3.heap.size w3 w' ∧ (ldF (.pointer (some ⟨w2.heap.size + 1, 0, none⟩))).run Tryz.prog w' = .ok (.agg #[.int .i64 1, .int .i64 8, .int .i64 0, .int .i64 9223372036854775807, .int .i64 0]) w')) := fun w' hb => ⟨hb, ldF_bk (f := nF 8 0 9223372036854775807) (ht.off.ext hb)⟩
    have r0 := below_drew1 (Below.refl w3.heap.size w3)
    have Ht := Lib.hid ht
    clear ht
    go_region_held3 (fun w' => Below w3.heap.size w3 w' ∧ (ldF (.pointer (some ⟨w2.heap.size + 1, 0, none⟩))).run Tryz.prog w' = .ok (.agg #[.int .i64 1, .int .i64 8, .int .i64 0, .int .i64 9223372036854775807, .int .i64 0]) w') (first | exact FS.out _ r0 | exact FS.out _ hb5 | exact FS.out _ hb4 | exact FS.out _ (hb5.alloc hs5 _) | exact FS.out _ (hb4.alloc hs4 _)) (first | (go_at_call 75; (first | (with_reducible refine (name_fld w3.drew w3 w3.heap.size r0 r0.size).mono ?_) | (with_reducible refine (name_fld _ w3 w3.heap.size hb4 hs4).mono ?_)); rintro e w5 ⟨rfl, hb5, hs5⟩) | (go_at_call 74; (first | (with_reducible refine (number_fld 1 1 4 w3.drew w3 w3.heap.size r0 r0.size).mono ?_) | (with_reducible refine (number_fld 1 1 4 _ w3 w3.heap.size hb5 hs5).mono ?_)); rintro e w4 ⟨rfl, hb4, hs4⟩) | fail)
    all_goals
      go_wp2_with fail
      go_ret
      exact ⟨_, rfl, fldR_bk (Bk.made w4 _ _) rfl rfl (by omega) (by decide), Ht.out.below.trans (below_le Ht.out.size (hb4.alloc hs4 _))⟩
  · refine calls_cut (fun w' => Two w' B w0 w2.heap.size) HT.out ?_
    clear HT hst1 hst2
    rintro w3 ht
    refine (name_fld w3 w3 w3.heap.size (Below.refl _ _) (Nat.le_refl _)).mono ?_
    rintro e w4 ⟨rfl, hb4, hs4⟩
    go_wp2_with fail
    go_ret
    exact ⟨_, rfl, fldR_bk (Bk.made w4 _ _) rfl rfl (by omega) (by decide), ht.below.trans (below_le ht.size (hb4.alloc hs4 _))⟩
  · refine wp_cut (fun w' => Two w' B w0 w2.heap.size) HT.out ?_
    clear HT hst1 hst2
    rintro w3 ht
    have FS : Hid (∀ w', Below w3.heap.size w3 w' → (Below w3.heap.size w3 w' ∧ (ldF (.pointer (some ⟨w2.heap.size, 0, none⟩))).run Tryz.prog w' = .ok (.agg #[.int .i64 1, .int .i64 1, .int .i64 0, .int .i64 3, .int .i64 0]) w')) := fun w' hb => ⟨hb, ldF_bk (f := nF 1 0 3) (ht.part.ext hb)⟩
    have r0 := below_drew1 (Below.refl w3.heap.size w3)
    have Ht := Lib.hid ht
    clear ht
    go_region_held3 (fun w' => Below w3.heap.size w3 w' ∧ (ldF (.pointer (some ⟨w2.heap.size, 0, none⟩))).run Tryz.prog w' = .ok (.agg #[.int .i64 1, .int .i64 1, .int .i64 0, .int .i64 3, .int .i64 0]) w') (first | exact FS.out _ r0 | exact FS.out _ hb4 | exact FS.out _ (hb4.alloc hs4 _)) (first | (go_at_call 75; (with_reducible refine (name_fld w3.drew w3 w3.heap.size r0 r0.size).mono ?_); rintro e w4 ⟨rfl, hb4, hs4⟩) | fail)
    all_goals
      go_wp2_with fail
      go_ret
      exact ⟨_, rfl, fldR_bk (Bk.made w4 _ _) rfl rfl (by omega) (by decide), Ht.out.below.trans (below_le Ht.out.size (hb4.alloc hs4 _))⟩
  · refine calls_cut (fun w' => Two w' B w0 w2.heap.size) HT.out ?_
    clear HT hst1 hst2
    rintro w3 ht
    refine (name_fld w3 w3 w3.heap.size (Below.refl _ _) (Nat.le_refl _)).mono ?_
    rintro e w4 ⟨rfl, hb4, hs4⟩
    go_wp2_with (first | (at_builtin; refine wpList_append_gen rfl (.tmp 29) (.tmp 31) 103 rfl 154 ii _ 5 40 Tryz.underlying103 HI.out HZ.out HS.out HB.out rfl (by omega) w3.heap.size w3 _ 0 [] rfl (World.ownsRow_nil _ _ _ _) ⟨w4.heap.size, 0, none⟩ 1 1 [.int .i64 2, .int .i64 0, .int .i64 1, .int .i64 24, .int .i64 0] rfl rfl (cells_newm w4 _ (0, 0) _ _ rfl _ rfl) (by decide) (by unfold maxLen; omega) (by omega) (hb4.alloc hs4 _) (hb4.alloc hs4 _).size ?_; intro A6 c6 w6 ho6 hg6 hob6 hb6 hs6) | fail)
    have HO6 := Lib.hid (show w6.ownsRow w3.heap.size 154 5 (.slice A6 1 c6) 1 [.int .i64 2, .int .i64 0, .int .i64 1, .int .i64 24, .int .i64 0] from ho6.out)
    have FS : Hid (∀ w', Below w3.heap.size w3 w' → (Below w3.heap.size w3 w' ∧ (ldF (.pointer (some ⟨w2.heap.size, 0, none⟩))).run Tryz.prog w' = .ok (.agg #[.int .i64 1, .int .i64 1, .int .i64 0, .int .i64 3, .int .i64 0]) w' ∧ (ldF (.pointer (some ⟨w2.heap.size + 1, 0, none⟩))).run Tryz.prog w' = .ok (.agg #[.int .i64 1, .int .i64 8, .int .i64 0, .int .i64 9223372036854775807, .int .i64 0]) w')) := fun w' hb => ⟨hb, ldF_bk (f := nF 1 0 3) (ht.part.ext hb), ldF_bk (f := nF 8 0 9223372036854775807) (ht.off.ext hb)⟩
    have r6 := below_drew1 hb6
    have Ht := Lib.hid ht
    clear ht
    go_region_held3 (fun w' => Below w3.heap.size w3 w' ∧ (ldF (.pointer (some ⟨w2.heap.size, 0, none⟩))).run Tryz.prog w' = .ok (.agg #[.int .i64 1, .int .i64 1, .int .i64 0, .int .i64 3, .int .i64 0]) w' ∧ (ldF (.pointer (some ⟨w2.heap.size + 1, 0, none⟩))).run Tryz.prog w' = .ok (.agg #[.int .i64 1, .int .i64 8, .int .i64 0, .int .i64 9223372036854775807, .int .i64 0]) w') (first | exact FS.out _ r6 | exact FS.out _ hb9 | exact FS.out _ hb8 | exact FS.out _ (hb8.alloc hs8 _)) (first | (go_at_call 75; (with_reducible refine (name_fld2 w6 w3 w3.heap.size r6 r6.size).mono ?_); rintro e w8 ⟨rfl, hx8, hb8, hs8⟩; have HO8 := Lib.hid (World.ownsRow.kept HO6.out (grown_of_below hx8) (Classical.em _))) | ((refine step_append_gen (by rfl) (.tmp 33) (.tmp 37) 103 (by rfl) 154 ii _ 5 40 Tryz.underlying103 HI.out HZ.out HS.out HB.out (by rfl) (by omega) w3.heap.size w3 _ 1 [.int .i64 2, .int .i64 0, .int .i64 1, .int .i64 24, .int .i64 0] (by rfl) (World.ownsRow.alloc HO8.out _) ⟨w8.heap.size, 0, none⟩ 3 3 [.int .i64 2, .int .i64 0, .int .i64 1, .int .i64 24, .int .i64 0, .int .i64 1, .int .i64 1, .int .i64 0, .int .i64 3, .int .i64 0, .int .i64 1, .int .i64 8, .int .i64 0, .int .i64 9223372036854775807, .int .i64 0] (by rfl) (by rfl) (cells_newm w8 _ (0, 0) _ _ rfl _ rfl) (by decide) (by unfold maxLen; omega) (by omega) (hb8.alloc hs8 _) (hb8.alloc hs8 _).size 4 rfl ?_; intro A9 c9 w9 ho9 hg9 hb9 hs9)) | fail)
    all_goals
      go_wp2_with fail
      go_ret
      exact ⟨_, rfl, fldR_own ho9.out rfl (by omega) (by omega) (by decide), Ht.out.below.trans (below_le Ht.out.size hb9)⟩
  · refine wp_cut (fun w' => Two w' B w0 w2.heap.size) HT.out ?_
    clear HT hst1 hst2
    rintro w3 ht
    have FS : Hid (∀ w', Below w3.heap.size w3 w' → (Below w3.heap.size w3 w' ∧ (ldF (.pointer (some ⟨w2.heap.size, 0, none⟩))).run Tryz.prog w' = .ok (.agg #[.int .i64 1, .int .i64 1, .int .i64 0, .int .i64 3, .int .i64 0]) w' ∧ (ldF (.pointer (some ⟨w2.heap.size + 1, 0, none⟩))).run Tryz.prog w' = .ok (.agg #[.int .i64 1, .int .i64 8, .int .i64 0, .int .i64 9223372036854775807, .int .i64 0]) w')) := fun w' hb => ⟨hb, ldF_bk (f := nF 1 0 3) (ht.part.ext hb), ldF_bk (f := nF 8 0 9223372036854775807) (ht.off.ext hb)⟩
    have r6 := below_drew1 (Below.refl w3.heap.size w3)
    have Ht := Lib.hid ht
    clear ht
    go_region_held3 (fun w' => Below w3.heap.size w3 w' ∧ (ldF (.pointer (some ⟨w2.heap.size, 0, none⟩))).run Tryz.prog w' = .ok (.agg #[.int .i64 1, .int .i64 1, .int .i64 0, .int .i64 3, .int .i64 0]) w' ∧ (ldF (.pointer (some ⟨w2.heap.size + 1, 0, none⟩))).run Tryz.prog w' = .ok (.agg #[.int .i64 1, .int .i64 8, .int .i64 0, .int .i64 9223372036854775807, .int .i64 0]) w') (first | exact FS.out _ r6 | exact FS.out _ hb9 | exact FS.out _ hb8 | exact FS.out _ (hb8.alloc hs8 _)) (first | (go_at_call 75; (with_reducible refine (name_fld w3.drew w3 w3.heap.size r6 r6.size).mono ?_); rintro e w8 ⟨rfl, hb8, hs8⟩) | ((refine step_append_gen (by rfl) (.tmp 33) (.tmp 37) 103 (by rfl) 154 ii _ 5 40 Tryz.underlying103 HI.out HZ.out HS.out HB.out (by rfl) (by omega) w3.heap.size w3 _ 0 [] (by rfl) (World.ownsRow_nil _ _ _ _) ⟨w8.heap.size, 0, none⟩ 3 3 [.int .i64 2, .int .i64 0, .int .i64 1, .int .i64 24, .int .i64 0, .int .i64 1, .int .i64 1, .int .i64 0, .int .i64 3, .int .i64 0, .int .i64 1, .int .i64 8, .int .i64 0, .int .i64 9223372036854775807, .int .i64 0] (by rfl) (by rfl) (cells_newm w8 _ (0, 0) _ _ rfl _ rfl) (by decide) (by unfold maxLen; omega) (by omega) (hb8.alloc hs8 _) (hb8.alloc hs8 _).size 3 rfl ?_; intro A9 c9 w9 ho9 hg9 hb9 hs9)) | fail)
    all_goals
      go_wp2_with fail
      go_ret
      exact ⟨_, rfl, fldR_own ho9.out rfl (by omega) (by omega) (by decide), Ht.out.below.trans (below_le Ht.out.size hb9)⟩
  · go_ret
    have n1 : k ≠ 1 := by simpa using k1
    have n2 : k ≠ 2 := by simpa using k2
    have n3 : k ≠ 3 := by simpa using k3
    have n4 : k ≠ 4 := by simpa using k4
    have n5 : k ≠ 5 := by simpa using k5
    have e : fldsE k = [] := by unfold fldsE; rw [if_neg n1, if_neg n2, if_neg n3, if_neg n4, if_neg n5]
    exact ⟨_, rfl, ⟨none, 0, 0, rfl, by rw [e]; exact RdK.nil _ _, by omega, by rw [decide_eq_false (by omega)]; rfl⟩, HT.out.below⟩
end Go.Proofs.YtjodiieeocaipaaGreatDoor
