import Derived.Test.YtjodiieeocaipaaGreatDoorSMem
import Derived.Test.YtjodiieeocaipaaGreatDoorEFld
import Derived.Test.YtjodiieeocaipaaGreatDoorEVal
import Derived.Deep.RegionLaw
import Derived.StillTailTactics
import Derived.Deep.CutRange
import Derived.Test.YtjodiieeocaipaaGreatDoorCut
import Derived.Lib.MinMax
/-
  index: New, mark, Add, Len, Head.
-/
namespace Go.Proofs.YtjodiieeocaipaaGreatDoor
open Go.RowKit Go.Maps

def zHd : Array Value := #[.int .i64 0, .int .i64 0, .int .i64 0, .int .i64 0, .int .i64 0]
theorem info_hd : (Tryz.prog.info? 95).map (fun i => (i.zero, i.size, i.bytes)) = some (some (.agg zHd), 5, 40) := by kernel_rfl
theorem info_int : (Tryz.prog.info? 3).map (fun i => (i.zero, i.size, i.bytes)) = some (some (.int .i64 0), 1, 8) := by kernel_rfl
theorem size_hd : (Tryz.prog.info? 95).map (·.size) = some 5 := by kernel_rfl
def ldH (v : Value) : Sem Value := Instr.loadAt 95 v
theorem ldH_eq (v : Value) : Instr.loadAt 95 v = ldH v := rfl
def stH (v u : Value) : Sem Unit := Instr.storeAt 95 v u
theorem stH_eq (v u : Value) : Instr.storeAt 95 v u = stH v u := rfl
theorem ldH_bk {w : World} {G : Nat} {h : Hd} (hb : Bk w G 95 #[.int .i64 h.base, .int .i64 h.cnt, .int .i64 h.time, .int .i64 h.stripe, .int .i64 h.ent]) :
    (ldH (.pointer (some ⟨G, 0, none⟩))).run Tryz.prog w = .ok (.agg #[.int .i64 h.base, .int .i64 h.cnt, .int .i64 h.time, .int .i64 h.stripe, .int .i64 h.ent]) w := by
  unfold ldH
  simp only [Instr.loadAt, Instr.sureAddr, Sem.run_bind, Sem.run_pure, Result.andThen_ok, run_loadVar_row w G _ _ _ (0, 0) _ hb Tryz.underlying95 rfl size_hd]
/-- one append, with where the new slice lies -/
theorem step_append_at {P : Program} {ops : Array Oper} {o : Oper} {a : Act} {w : World} {K : Act → World → Prop} {Q : Exit → Act → World → Prop} {E : Prop} (hgd : o.guard = none) (s x : Operand) (t : TypeId)
    (ho : o.op = .call { callee := .builtin .append, args := #[s, x], argTypes := #[t, t] })
    (e : TypeId) (i : TypeInfo) (z : Value) (size bytes : Nat) (ht : P.underlying t = some (.slice e)) (hi : P.info? e = some i) (hz : i.zero = some z)
    (hsize : i.size = size) (hby : i.bytes = bytes) (hzs : z.cells.size = size) (hsz : 0 < size)
    (v : Value) (n : Nat) (xs : List Value) (hs : a.eval s = v) (hown : w.ownsRow 0 e size v n xs)
    (ad : Addr) (m c : Nat) (news : List Value) (hx : a.eval x = .slice (some ad) m c) (hl : news.length = m * size) (hnews : ∀ j u, news[j]? = some u → w.cell? (ad.add j) = some u) (h1 : ∀ u ∈ news, u.oneCell' = true)
    (h63 : n + m ≤ maxLen) (hbytes : (n + m) * bytes ≤ 140737488355328) (N : Nat) (hN : N = n + m)
    (h : ∀ A' c' w', Hid (w'.ownsRow 0 e size (.slice A' N c') N (xs ++ news)) → Hid (w.grownBy w' v.ownBlock) → Hid ((Value.slice A' N c').ownBlock = v.ownBlock ∨ (Value.slice A' N c').ownBlock = some w.heap.size) → K (a.put o.dst (.slice A' N c')) w') :
    if Region.wanted o (yielded ops a.tmps) = true then Oper.wp P o a w K Q else E := by
  have hw : Region.wanted o (yielded ops a.tmps) = true := by simp [Region.wanted, hgd]
  rw [if_pos hw]
  subst hN
  obtain ⟨v', w', hrun, h2, h3, _, h5⟩ := run_append_own_at (P := P) w 0 t o.type e i z size bytes ht hi hz hsize hby hzs hsz v n xs hown ad m c news hl hnews h1 h63 hbytes (Nat.zero_le _)
  obtain ⟨A', c', rfl⟩ : ∃ A' c', v' = .slice A' (n + m) c' := by
    rcases h2.2 with ⟨rfl, h0⟩ | ⟨g, cap, cur, rfl, _⟩
    · exact ⟨none, 0, by rw [h0]⟩
    · exact ⟨_, _, rfl⟩
  unfold Oper.wp execOp
  simp only [ho, resolve, invoke, builtin, Sem.run_bind, Sem.run_pure, Result.andThen_ok, List.map_toArray, List.map_cons, List.map_nil, hs, hx, hrun]
  exact h A' c' w' h2 h3 h5
attribute [local go_sem ↓] ldH_eq stH_eq
theorem hd_one (h : Hd) : ∀ u ∈ h.cells, u.oneCell' = true := by
  intro u hu
  simp only [Hd.cells, List.mem_cons, List.not_mem_nil, or_false] at hu
  rcases hu with rfl | rfl | rfl | rfl | rfl <;> rfl
theorem heads_cell {w : World} {hv : Value} {n : Nat} {l : List Hd} (ho : w.ownsRow 0 95 5 hv n (l.flatMap Hd.cells)) {k : Nat} {h : Hd} (hk : l[k]? = some h) :
    ∃ g c, hv = .slice (some ⟨g, 0, none⟩) n c ∧ n ≤ c ∧ c ≤ maxLen ∧ g < w.heap.size ∧ k < n ∧ (∀ j u, h.cells[j]? = some u → w.cell? ⟨g, k * 5 + j, none⟩ = some u) ∧ w.heap[g]?.isSome = true := by
  have hlt := (List.getElem?_eq_some_iff.1 hk).1
  have hl : (l.flatMap Hd.cells).length = l.length * 5 := by
    clear ho hk hlt
    induction l with
    | nil => rfl
    | cons a r ih => rw [List.flatMap_cons, List.length_append, ih, h5, List.length_cons]; omega
  have hn := ho.1
  rw [hl] at hn
  rcases ho.2 with ⟨_, h0⟩ | ⟨g, cap, cur, rfl, _, hg, h3, h4, h5', h6⟩
  · omega
  · refine ⟨g, cap, rfl, h3, h4, (Array.getElem?_eq_some_iff.1 hg).1, by omega, fun j u hu => ?_, by rw [hg]; rfl⟩
    have hj : j < 5 := by have := (List.getElem?_eq_some_iff.1 hu).1; rw [h5] at this; exact this
    have hc := ho.cellAt (g := g) (cap := cap) (k * 5 + j) (by omega)
    rw [hc]
    have : ∀ (l : List Hd) (k : Nat), l[k]? = some h → (l.flatMap Hd.cells)[k * 5 + j]? = some u := by
      intro l
      induction l with
      | nil => intro k h; cases h
      | cons a r ih =>
        intro k hk
        rw [List.flatMap_cons]
        cases k with
        | zero =>
          have e : a = h := by simpa using hk
          subst e
          rw [List.getElem?_append_left (by rw [h5]; omega), Nat.zero_mul, Nat.zero_add]
          exact hu
        | succ k =>
          rw [List.getElem?_append_right (by rw [h5]; omega), h5, show (k + 1) * 5 + j - 5 = k * 5 + j by omega]
          exact ih k (by simpa using hk)
    exact this l k hk
/-- blocks of unlike element types are not one -/
theorem own_ne {w : World} {g base : Nat} {t e : TypeId} {cs : Array Value} {size n : Nat} {v : Value} {xs : List Value} (hb : Bk w g t cs) (ho : w.ownsRow base e size v n xs) (hne : t ≠ e) : v.ownBlock ≠ some g := by
  intro h
  rcases ho.2 with ⟨rfl, _⟩ | ⟨g', cap, cur, rfl, _, hg, _⟩
  · cases h
  · obtain rfl : g' = g := Option.some.inj h
    unfold Bk at hb
    rw [hg] at hb
    injection hb with hb
    injection hb with _ hb
    exact hne hb.symm
theorem setCell_ext {w : World} {n : Nat} {t : TypeId} {base size : Nat} {v : Value} {xs : List Value} {p : Addr} {u : Value} (ho : w.ownsRow base t size v n xs) (hne : v.ownBlock ≠ some p.block) : (w.setCell p u).ownsRow base t size v n xs :=
  ho.kept (grown_set w p u) (.inr hne)
theorem own_ne2 {w : World} {b1 b2 : Nat} {t1 t2 : TypeId} {s1 s2 n1 n2 : Nat} {v1 v2 : Value} {x1 x2 : List Value} (h1 : w.ownsRow b1 t1 s1 v1 n1 x1) (h2 : w.ownsRow b2 t2 s2 v2 n2 x2) (hne : t1 ≠ t2) : v1.ownBlock = none ∨ v1.ownBlock ≠ v2.ownBlock := by
  rcases h1.2 with ⟨rfl, _⟩ | ⟨g, cap, cur, rfl, _, hg, _⟩
  · exact .inl rfl
  · refine .inr (fun e => ?_)
    exact own_ne (show Bk w g t1 cur from hg) h2 hne e.symm
theorem mark_end {P : Nat → Prop} {w w0 w' : World} {ib : Nat} {l : List Hd} {h : Hd} {hv mv : Value} {A' : Option Addr} {c' : Nat} (hb : Bk w ib 136 #[.int .i64 4, hv, mv]) (ho : w.ownsRow 0 95 5 hv (l.length + 1) ((l ++ [h]).flatMap Hd.cells)) (ho'' : w.ownsRow 0 3 1 mv (marksOf l).length ((marksOf l).map iv)) (hnw : Below w.heap.size w w0)
    (hg : w0.grownBy w' mv.ownBlock) (ho' : w'.ownsRow 0 3 1 (.slice A' ((marksOf l).length + 1) c') ((marksOf l).length + 1) ((marksOf l).map iv ++ [.int .i64 h.base])) (hp : (Value.slice A' ((marksOf l).length + 1) c').ownBlock = mv.ownBlock ∨ (Value.slice A' ((marksOf l).length + 1) c').ownBlock = some w0.heap.size)
    (h1 : ∀ g, hv.ownBlock = some g → P g) (h2 : ∀ g, mv.ownBlock = some g → P g) (hi : P ib) (hq : l.length % 4 = 0) (hne : mv.ownBlock ≠ some ib) :
    IdxAt (w'.setCell ⟨ib, 2, none⟩ (.slice A' ((marksOf l).length + 1) c')) (Wide P w) ib (l ++ [h]) ∧ Turned P w (w'.setCell ⟨ib, 2, none⟩ (.slice A' ((marksOf l).length + 1) c')) := by
  have hk0 := hb.ext hnw
  have hk' := hk0.grown hg (fun e => hne e.symm)
  have hT := ((Turned.of_below (P := P) hnw).then_grown hg (fun k e => .inl (h2 k e))).then_grown (grown_set w' ⟨ib, 2, none⟩ (.slice A' ((marksOf l).length + 1) c')) (fun k e => by obtain rfl := Option.some.inj e; exact .inl hi)
  have hmn := own_ne2 ho ho'' (by decide)
  refine ⟨⟨⟨_, _, hk'.put 2 (.slice A' ((marksOf l).length + 1) c'), ?_, ?_, fun g e => .inl (h1 g e), fun g e => ?_⟩, .inl hi⟩, hT⟩
  · rw [List.length_append]
    exact setCell_ext ((ho.kept (grown_of_below hnw) (Classical.em _)).kept hg hmn) (own_ne hb ho (by decide))
  · rw [marks_snoc, if_pos hq, List.length_append, List.map_append]
    exact setCell_ext ho' (own_ne hk' ho' (by decide))
  · rcases hp with hp | hp
    · exact .inl (h2 g (by rw [← hp]; exact e))
    · rw [hp] at e
      obtain rfl := Option.some.inj e
      exact .inr hnw.size
set_option maxRecDepth 100000 in
set_option maxHeartbeats 1000000 in
theorem idxMark_any (P : Nat → Prop) (ib : Nat) (l : List Hd) (h : Hd) (hv mv : Value) (w : World) (hb : Bk w ib 136 #[.int .i64 4, hv, mv]) (ho : w.ownsRow 0 95 5 hv (l.length + 1) ((l ++ [h]).flatMap Hd.cells))
    (hm : w.ownsRow 0 3 1 mv (marksOf l).length ((marksOf l).map iv)) (h1 : ∀ g, hv.ownBlock = some g → P g) (h2 : ∀ g, mv.ownBlock = some g → P g) (hi : P ib) (hs : l.length ≤ 1000000) :
    Calls Tryz.prog 93 #[.pointer (some ⟨ib, 0, none⟩)] w fun e w' => e = .returned (.tuple #[]) ∧ IdxAt w' (Wide P w) ib (l ++ [h]) ∧ Turned P w w' := by
  obtain ⟨gh, ch, rfl, hc1, hc2, hgh, _, hcell, _⟩ := heads_cell ho (k := l.length) (h := h) (by simp)
  have hc2' : ch ≤ 9223372036854775807 := by simpa [maxLen] using hc2
  have c0 : w.cell? ⟨ib, 0, none⟩ = some (.int .i64 4) := hb.cell 0
  have c1 : w.cell? ⟨ib, 1, none⟩ = some (.slice (some ⟨gh, 0, none⟩) (l.length + 1) ch) := hb.cell 1
  have c2 : w.cell? ⟨ib, 2, none⟩ = some mv := hb.cell 2
  have hml : (marksOf l).length ≤ 1000000 := by rw [marks_len]; omega
  have hi0 : (0 : Int) ≤ (l.length : Int) := by omega
  have hi1 : (l.length : Int) < (l.length : Int) + 1 := by omega
  have hi2 : wrap64 (((l.length + 1 : Nat) : Int) - 1) = (l.length : Int) := by rw [IntWalk.wrap64_in _ ⟨by omega, by omega⟩]; omega
  obtain ⟨ii, hn0, hz0, hs0, hy0⟩ := info_parts info_int
  by_cases hq : l.length % 4 = 0
  · have hq' : ((l.length : Int) % 4 == 0) = true := by rw [beq_iff_eq]; omega
    have cb : w.cell? ⟨gh, l.length * 5, none⟩ = some (.int .i64 h.base) := hcell 0 _ rfl
    have hne := own_ne hb hm (by decide)
    have Hb := Lib.hid hb
    have Ho := Lib.hid ho
    have Hm := Lib.hid hm
    clear hb ho hm hcell
    have hnw := below_drew1 (below_new w (.cells #[.int .i64 h.base] 3))
    have c2n : (w.alloc (.cells #[.int .i64 h.base] 3)).cell? ⟨ib, 2, none⟩ = some mv := (Hb.out.alloc _).cell 2
    go_enter Tryz.func93, Tryz.ntmps93
    go_upto_region 2 with fail
    go_region_law (go_loud (refine step_append_at rfl (.tmp 20) (.tmp 29) 47 rfl 3 ii _ 1 8 Tryz.underlying47 hn0 hz0 hs0 hy0 rfl (by omega) mv (marksOf l).length ((marksOf l).map iv) rfl (World.ownsRow.drew (World.ownsRow.alloc Hm.out _)) ⟨w.heap.size, 0, none⟩ 1 1 [.int .i64 h.base] rfl rfl (cells_newm w _ (0, 0) _ _ rfl _ rfl) (one_all rfl) (by unfold maxLen; omega) (by omega) ((marksOf l).length + 1) rfl ?_); go_loud (intro A' c' w' ho' hg' hp'); go_loud (have hk' := (Hb.out.ext hnw).grown hg'.out (fun e => hne e.symm)); go_loud (have c2' := hk'.cell 2); go_loud (have f2' := hk'.thaw 2))
    all_goals
      go_wp2_with fail
      go_end0
      exact ⟨rfl, mark_end Hb.out Ho.out Hm.out hnw hg'.out ho'.out hp'.out h1 h2 hi hq hne⟩
  · have hq' : ((l.length : Int) % 4 == 0) = false := by rw [beq_eq_false_iff_ne]; omega
    have Hb := Lib.hid hb
    have Ho := Lib.hid ho
    have Hm := Lib.hid hm
    clear hb ho hm hcell
    go_enter Tryz.func93, Tryz.ntmps93
    go_wp2_with fail
    go_end0
    refine ⟨rfl, ⟨⟨_, _, Hb.out, by rw [List.length_append]; exact Ho.out, ?_, fun g e => .inl (h1 g e), fun g e => .inl (h2 g e)⟩, .inl hi⟩, Turned.refl _ _⟩
    rw [marks_snoc, if_neg hq]
    exact Hm.out
end Go.Proofs.YtjodiieeocaipaaGreatDoor

/-
  index: New, Add, Len, Head.
-/
namespace Go.Proofs.YtjodiieeocaipaaGreatDoor
open Go.RowKit Go.Maps
attribute [local go_sem ↓] ldH_eq stH_eq

def hdR (h : Hd) : Array Value := #[.int .i64 h.base, .int .i64 h.cnt, .int .i64 h.time, .int .i64 h.stripe, .int .i64 h.ent]
theorem add_mid {P : Nat → Prop} {w w1 w0 w' : World} {ib : Nat} {l : List Hd} {h : Hd} {hv mv : Value} {A' : Option Addr} {c' : Nat} (hb : Bk w1 ib 136 #[.int .i64 4, hv, mv]) (ho : w1.ownsRow 0 95 5 hv l.length (l.flatMap Hd.cells)) (hm : w1.ownsRow 0 3 1 mv (marksOf l).length ((marksOf l).map iv)) (hw1 : Below w.heap.size w w1) (hnw : Below w1.heap.size w1 w0)
    (hg : w0.grownBy w' hv.ownBlock) (ho' : w'.ownsRow 0 95 5 (.slice A' (l.length + 1) c') (l.length + 1) (l.flatMap Hd.cells ++ h.cells)) (hp : (Value.slice A' (l.length + 1) c').ownBlock = hv.ownBlock ∨ (Value.slice A' (l.length + 1) c').ownBlock = some w0.heap.size)
    (h1 : ∀ g, hv.ownBlock = some g → P g) (hi : P ib) (hne : hv.ownBlock ≠ some ib) :
    Bk (w'.setCell ⟨ib, 1, none⟩ (.slice A' (l.length + 1) c')) ib 136 #[.int .i64 4, .slice A' (l.length + 1) c', mv] ∧ (w'.setCell ⟨ib, 1, none⟩ (.slice A' (l.length + 1) c')).ownsRow 0 95 5 (.slice A' (l.length + 1) c') (l.length + 1) ((l ++ [h]).flatMap Hd.cells) ∧
      (w'.setCell ⟨ib, 1, none⟩ (.slice A' (l.length + 1) c')).ownsRow 0 3 1 mv (marksOf l).length ((marksOf l).map iv) ∧ (∀ g, (Value.slice A' (l.length + 1) c').ownBlock = some g → Wide P w g) ∧ Turned P w (w'.setCell ⟨ib, 1, none⟩ (.slice A' (l.length + 1) c')) := by
  have hk0 := hb.ext hnw
  have hk' := hk0.grown hg (fun e => hne e.symm)
  have hT := (((Turned.of_below (P := P) hw1).then_below hnw).then_grown hg (fun k e => .inl (h1 k e))).then_grown (grown_set w' ⟨ib, 1, none⟩ (.slice A' (l.length + 1) c')) (fun k e => by obtain rfl := Option.some.inj e; exact .inl hi)
  have hmn := own_ne2 hm ho (by decide)
  refine ⟨hk'.put 1 (.slice A' (l.length + 1) c'), ?_, ?_, fun g e => ?_, hT⟩
  · rw [List.flatMap_append, List.flatMap_singleton]
    exact setCell_ext ho' (own_ne hk' ho' (by decide))
  · exact setCell_ext ((hm.kept (grown_of_below hnw) (Classical.em _)).kept hg hmn) (own_ne hb hm (by decide))
  · rcases hp with hp | hp
    · exact .inl (h1 g (by rw [← hp]; exact e))
    · rw [hp] at e
      obtain rfl := Option.some.inj e
      exact .inr (Nat.le_trans hw1.size hnw.size)
set_option maxRecDepth 100000 in
set_option maxHeartbeats 1000000 in
theorem idxAdd_any (P : Nat → Prop) (ib : Nat) (l : List Hd) (h : Hd) (w : World) (hi : IdxAt w P ib l) (hs : l.length ≤ 1000000) :
    Calls Tryz.prog 66 #[.pointer (some ⟨ib, 0, none⟩), .agg #[.int .i64 h.base, .int .i64 h.cnt, .int .i64 h.time, .int .i64 h.stripe, .int .i64 h.ent]] w fun e w' => e = .returned (.tuple #[]) ∧ IdxAt w' (Wide P w) ib (l ++ [h]) ∧ Turned P w w' := by
  obtain ⟨⟨hv, mv, hb, ho, hm, h1, h2⟩, hp⟩ := hi
  obtain ⟨ii, hn0, hz0, hs0, hy0⟩ := info_parts info_hd
  have hb1 := below_new w (.cells #[.int .i64 h.base, .int .i64 h.cnt, .int .i64 h.time, .int .i64 h.stripe, .int .i64 h.ent] 95)
  have hkb := Bk.made w 95 #[.int .i64 h.base, .int .i64 h.cnt, .int .i64 h.time, .int .i64 h.stripe, .int .i64 h.ent]
  have Hb := Lib.hid (hb.ext hb1)
  have Ho := Lib.hid (ho.kept (grown_of_below hb1) (Classical.em _))
  have Hm := Lib.hid (hm.kept (grown_of_below hb1) (Classical.em _))
  have hne := own_ne Hb.out Ho.out (by decide)
  have HB1 := Lib.hid hb1
  have HKB := Lib.hid hkb
  have H1 := Lib.hid h1
  have H2 := Lib.hid h2
  clear hb ho hm hb1 hkb h1 h2
  go_enter Tryz.func66, Tryz.ntmps66
  go_upto_region 1 with fail
  generalize w.alloc (.cells #[.int .i64 h.base, .int .i64 h.cnt, .int .i64 h.time, .int .i64 h.stripe, .int .i64 h.ent] 95) = w1 at Hb Ho Hm HB1 HKB hne ⊢
  have hld := ldH_bk HKB.out
  have hld2 := ldH_bk (h := h) (show Bk w1.drew w.heap.size 95 _ from HKB.out)
  have c1 : w1.cell? ⟨ib, 1, none⟩ = some hv := Hb.out.cell 1
  have c1n : (w1.alloc (.cells #[.int .i64 h.base, .int .i64 h.cnt, .int .i64 h.time, .int .i64 h.stripe, .int .i64 h.ent] 95)).cell? ⟨ib, 1, none⟩ = some hv := (Hb.out.alloc _).cell 1
  have hnw := below_drew1 (below_new w1 (.cells #[.int .i64 h.base, .int .i64 h.cnt, .int .i64 h.time, .int .i64 h.stripe, .int .i64 h.ent] 95))
  go_region_law (go_loud (refine step_append_at rfl (.tmp 8) (.tmp 10) 90 rfl 95 ii _ 5 40 Tryz.underlying90 hn0 hz0 hs0 hy0 rfl (by omega) hv l.length (l.flatMap Hd.cells) rfl (World.ownsRow.drew (World.ownsRow.alloc Ho.out _)) ⟨w1.heap.size, 0, none⟩ 1 1 h.cells rfl rfl (cells_newm w1 _ (0, 0) _ _ rfl _ rfl) (hd_one h) (by unfold maxLen; omega) (by omega) (l.length + 1) rfl ?_); go_loud (intro A' c' w' ho' hg' hp'); go_loud (have hk' := (Hb.out.ext hnw).grown hg'.out (fun e => hne e.symm)); go_loud (have c2' := hk'.cell 1); go_loud (have f2' := hk'.thaw 1))
  all_goals
    obtain ⟨r1, r2, r3, r4, r5⟩ := add_mid Hb.out Ho.out Hm.out HB1.out hnw hg'.out ho'.out hp'.out H1.out hp hne
    go_wp2_with fail
    refine (idxMark_any (Wide P w) ib l h _ mv _ r1 r2 r3 r4 (fun g e => .inl (H2.out g e)) (.inl hp) hs).mono ?_
    rintro er w5 ⟨rfl, hi5, ht5⟩
    go_wp2_with fail
    go_end0
    refine ⟨rfl, hi5.more (fun i _ hq => ?_), r5.wide ht5⟩
    rcases hq with hq | hq
    · exact hq
    · exact .inr (Nat.le_trans r5.size hq)
set_option maxRecDepth 100000 in
theorem idxLen_any (P : Nat → Prop) (ib : Nat) (l : List Hd) (w : World) (hi : IdxAt w P ib l) :
    Calls Tryz.prog 34 #[.pointer (some ⟨ib, 0, none⟩)] w fun e w' => e = .returned (.int .i64 l.length) ∧ w = w' := by
  obtain ⟨⟨hv, mv, hb, ho, hm, h1, h2⟩, hp⟩ := hi
  obtain ⟨A, c, rfl⟩ : ∃ A c, hv = .slice A l.length c := by
    rcases ho.2 with ⟨rfl, h0⟩ | ⟨g, cap, cur, rfl, _⟩
    · exact ⟨none, 0, by rw [h0]⟩
    · exact ⟨_, _, rfl⟩
  have c1 : w.cell? ⟨ib, 1, none⟩ = some (.slice A l.length c) := hb.cell 1
  clear hb ho hm h1 h2
  go_enter Tryz.func34, Tryz.ntmps34
  go_wp2
  go_ret
  exact ⟨rfl, rfl⟩
set_option maxRecDepth 100000 in
theorem idxNew_any (w : World) :
    Calls Tryz.prog 65 #[.int .i64 4] w fun e w' => e = .returned (.pointer (some ⟨w.heap.size, 0, none⟩)) ∧ IdxAt w' (fun i => w.heap.size ≤ i) w.heap.size [] ∧ Below w.heap.size w w' := by
  have hk := Bk.made w 136 #[.int .i64 4, .slice none 0 0, .slice none 0 0]
  have hb := below_new w (.cells #[.int .i64 4, .slice none 0 0, .slice none 0 0] 136)
  have HK := Lib.hid hk
  have HB := Lib.hid hb
  clear hk hb
  go_enter Tryz.func65, Tryz.ntmps65
  go_wp2
  go_ret
  exact ⟨rfl, ⟨⟨_, _, HK.out, World.ownsRow_nil _ _ _ _, World.ownsRow_nil _ _ _ _, (fun g e => by cases e), (fun g e => by cases e)⟩, Nat.le_refl _⟩, HB.out⟩
end Go.Proofs.YtjodiieeocaipaaGreatDoor

/-
  index: Head, first, Seek (with sort.Search, slices.IndexFunc).
-/
namespace Go.Proofs.YtjodiieeocaipaaGreatDoor
open Go.RowKit Go.Maps
attribute [local go_sem ↓] ldH_eq stH_eq sliced_past
attribute [local go_sem] pastA_zero

theorem ldH_at {w : World} {g o : Nat} {h : Hd} (hc : ∀ j u, h.cells[j]? = some u → w.cell? ⟨g, o + j, none⟩ = some u) : (ldH (.pointer (some ⟨g, o, none⟩))).run Tryz.prog w = .ok (.agg #[.int .i64 h.base, .int .i64 h.cnt, .int .i64 h.time, .int .i64 h.stripe, .int .i64 h.ent]) w :=
  run_loadAt_mid w g o 95 h.cells _ hc Tryz.underlying95 rfl size_hd
/-- a slice reads as the heads l -/
structure RdH (w : World) (A : Option Addr) (n c : Nat) (l : List Hd) : Prop where
  len : l.length = n
  cap : n ≤ c
  big : c ≤ 9223372036854775807
  cell : ∀ k h, l[k]? = some h → ∃ g o, A = some ⟨g, o, none⟩ ∧ g < w.heap.size ∧ ∀ j u, h.cells[j]? = some u → w.cell? ⟨g, o + k * 5 + j, none⟩ = some u
theorem RdH.ext {w w' : World} {A : Option Addr} {n c : Nat} {l : List Hd} (h : RdH w A n c l) (hb : Below w.heap.size w w') : RdH w' A n c l :=
  ⟨h.len, h.cap, h.big, fun k x hk => by
    obtain ⟨g, o, e, hg, hc⟩ := h.cell k x hk
    exact ⟨g, o, e, Nat.lt_of_lt_of_le hg hb.size, fun j u hu => (hb.cell (p := ⟨g, o + k * 5 + j, none⟩) hg).trans (hc j u hu)⟩⟩
theorem RdH.past {w : World} {A : Option Addr} {n c : Nat} {l : List Hd} (h : RdH w A n c l) (k : Nat) (hk : k ≤ n) : RdH w (pastA A k c 5) (n - k) (c - k) (l.drop k) := by
  have h1 := h.len
  have h2 := h.cap
  have h3 := h.big
  refine ⟨by rw [List.length_drop]; omega, by omega, by omega, fun j x hj => ?_⟩
  rw [List.getElem?_drop] at hj
  have hlt := (List.getElem?_eq_some_iff.1 hj).1
  obtain ⟨g, o, e, hg, hc⟩ := h.cell (k + j) x hj
  refine ⟨g, o + k * 5, ?_, hg, fun i u hu => ?_⟩
  · rw [e, pastA_some _ _ _ _ _ (by omega)]
  · rw [← hc i u hu]
    congr 2
    omega
theorem own_heads {w : World} {hv : Value} {n : Nat} {l : List Hd} (ho : w.ownsRow 0 95 5 hv n (l.flatMap Hd.cells)) : ∃ A c, hv = .slice A n c ∧ RdH w A n c l := by
  have hl : (l.flatMap Hd.cells).length = l.length * 5 := by
    clear ho
    induction l with
    | nil => rfl
    | cons a r ih => rw [List.flatMap_cons, List.length_append, ih, h5, List.length_cons]; omega
  have hn := ho.1
  rw [hl] at hn
  rcases ho.2 with ⟨rfl, h0⟩ | ⟨g, cap, cur, rfl, _, hg, h3, h4, _⟩
  · subst h0
    obtain rfl : l = [] := List.eq_nil_of_length_eq_zero (by omega)
    exact ⟨none, 0, rfl, rfl, Nat.le_refl _, by omega, fun k h hk => by cases hk⟩
  · refine ⟨_, _, rfl, by omega, h3, h4, fun k h hk => ?_⟩
    obtain ⟨g', c', e, _, _, hg', _, hc, _⟩ := heads_cell ho hk
    injection e with e1 e2 e3
    injection e1 with e1
    injection e1 with e1
    subst e1
    exact ⟨g, 0, rfl, hg', fun j u hu => by rw [Nat.zero_add]; exact hc j u hu⟩
theorem ints_cell {w : World} {mv : Value} {n : Nat} {l : List Int} (ho : w.ownsRow 0 3 1 mv n (l.map iv)) : ∃ A c, mv = .slice A n c ∧ l.length = n ∧ n ≤ c ∧ c ≤ 9223372036854775807 ∧ ∀ k (z : Int), l[k]? = some z → ∃ g, A = some ⟨g, 0, none⟩ ∧ g < w.heap.size ∧ w.cell? ⟨g, k, none⟩ = some (.int .i64 z) := by
  have hn := ho.1
  rw [List.length_map] at hn
  rcases ho.2 with ⟨rfl, h0⟩ | ⟨g, cap, cur, rfl, _, hg, h3, h4, _⟩
  · subst h0
    obtain rfl : l = [] := List.eq_nil_of_length_eq_zero (by omega)
    exact ⟨none, 0, rfl, rfl, Nat.le_refl _, by omega, fun k h hk => by cases hk⟩
  · refine ⟨_, _, rfl, by omega, h3, h4, fun k z hk => ⟨g, rfl, (Array.getElem?_eq_some_iff.1 hg).1, ?_⟩⟩
    have hlt := (List.getElem?_eq_some_iff.1 hk).1
    rw [ho.cellAt k (by omega), List.getElem?_map, hk]
    rfl
set_option maxRecDepth 100000 in
theorem idxHead_any (P : Nat → Prop) (ib : Nat) (l : List Hd) (k : Nat) (h : Hd) (hk : l[k]? = some h) (w : World) (hi : IdxAt w P ib l) :
    Calls Tryz.prog 67 #[.pointer (some ⟨ib, 0, none⟩), .int .i64 k] w fun e w' => e = .returned (.agg #[.int .i64 h.base, .int .i64 h.cnt, .int .i64 h.time, .int .i64 h.stripe, .int .i64 h.ent]) ∧ Below w.heap.size w w' := by
  obtain ⟨⟨hv, mv, hb, ho, hm, h1, h2⟩, hp⟩ := hi
  have hkl := (List.getElem?_eq_some_iff.1 hk).1
  obtain ⟨A, c, rfl, hr⟩ := own_heads ho
  obtain ⟨g, o, rfl, hg, hc⟩ := hr.cell k h hk
  have hb1 := below_new w (.cells zHd 95)
  have c1 : (w.alloc (.cells zHd 95)).cell? ⟨ib, 1, none⟩ = some (.slice (some ⟨g, o, none⟩) l.length c) := (hb.alloc _).cell 1
  have hld := ldH_at (w := w.alloc (.cells zHd 95)) (g := g) (o := o + k * 5) (h := h) (fun j u hu => (hb1.cell (p := ⟨g, o + k * 5 + j, none⟩) hg).trans (hc j u hu))
  have hkz := Bk.made w 95 zHd
  have HZ := Lib.hid hkz
  have HB := Lib.hid hb1
  have hlt : (k : Int) < (l.length : Int) := by omega
  have hge : ¬ (l.length : Int) ≤ (k : Int) := by omega
  have hk0 : ¬ (k : Int) < 0 := by omega
  have hst : (stH (.pointer (some ⟨w.heap.size, 0, none⟩)) (.agg #[.int .i64 h.base, .int .i64 h.cnt, .int .i64 h.time, .int .i64 h.stripe, .int .i64 h.ent])).run Tryz.prog (w.alloc (.cells zHd 95)) = .ok () (w.alloc (.cells #[.int .i64 h.base, .int .i64 h.cnt, .int .i64 h.time, .int .i64 h.stripe, .int .i64 h.ent] 95)) :=
    run_storeAt_new w 95 _ _ size_hd rfl (all_oneCell_toArray (one_all rfl))
  have HK := Lib.hid (Bk.made w 95 #[.int .i64 h.base, .int .i64 h.cnt, .int .i64 h.time, .int .i64 h.stripe, .int .i64 h.ent])
  have HB2 := Lib.hid (below_new w (.cells #[.int .i64 h.base, .int .i64 h.cnt, .int .i64 h.time, .int .i64 h.stripe, .int .i64 h.ent] 95))
  clear hb ho hm h1 h2 hr hc hkz hb1
  unfold zHd at c1 hld hst
  go_enter Tryz.func67, Tryz.ntmps67
  go_wp2_with fail
  exact bodyPost_ret (results_cell_row rfl _ _ w.heap.size _ _ (0, 0) _ rfl HK.out Tryz.underlying95 rfl size_hd) rfl ⟨rfl, HB2.out⟩
end Go.Proofs.YtjodiieeocaipaaGreatDoor

/-
  index: sort.Search and slices.IndexFunc as Seek uses them.
-/
namespace Go.Proofs.YtjodiieeocaipaaGreatDoor
open Go.RowKit Go.Maps
attribute [local go_sem ↓] ldH_eq stH_eq sliced_past
attribute [local go_sem] pastA_zero

set_option maxRecDepth 100000 in
theorem seek1_any (P : Nat → Prop) (ib : Nat) (l : List Hd) (bp op : Addr) (off : Int) (k : Nat) (z : Int) (w : World) (hi : IdxAt w P ib l) (hb : w.cell? bp = some (.pointer (some ⟨ib, 0, none⟩))) (ho : w.cell? op = some (.int .i64 off)) (hk : (marksOf l)[k]? = some z) :
    Calls Tryz.prog 95 #[.int .i64 k, .pointer (some bp), .pointer (some op)] w fun e w' => e = .returned (.bool (decide (off < z))) ∧ ∃ q, w' = w.drewN q := by
  obtain ⟨⟨hv, mv, hb', ho', hm, h1, h2⟩, hp⟩ := hi
  obtain ⟨A, c, rfl, hl1, hl2, hl3, hc⟩ := ints_cell hm
  have hkl := (List.getElem?_eq_some_iff.1 hk).1
  obtain ⟨g, rfl, hg, hce⟩ := hc k z hk
  have hlt : (k : Int) < ((marksOf l).length : Int) := by omega
  have hk0 : (0 : Int) ≤ (k : Int) := by omega
  have c2 : ∀ q, (w.drewN q).cell? ⟨ib, 2, none⟩ = some (.slice (some ⟨g, 0, none⟩) (marksOf l).length c) := fun q => hb'.cell 2
  have cz : ∀ q, (w.drewN q).cell? ⟨g, k, none⟩ = some (.int .i64 z) := fun q => hce
  have cb : ∀ q, (w.drewN q).cell? bp = some (.pointer (some ⟨ib, 0, none⟩)) := fun q => hb
  have co : ∀ q, (w.drewN q).cell? op = some (.int .i64 off) := fun q => ho
  clear hb' ho' hm h1 h2 hc hce hl1 hk hb ho
  go_enter Tryz.func95, Tryz.ntmps95
  go_upto_region 1 with fail
  go_quiet (fail)
  go_wp2_with fail
  go_ret
  exact ⟨rfl, _, rfl⟩
set_option maxRecDepth 100000 in
theorem seek2_any (h : Hd) (op : Addr) (off : Int) (w : World) (ho : w.cell? op = some (.int .i64 off)) (hw : wrap64 (off - h.base) = off - h.base) :
    Calls Tryz.prog 97 #[.agg #[.int .i64 h.base, .int .i64 h.cnt, .int .i64 h.time, .int .i64 h.stripe, .int .i64 h.ent], .pointer (some op)] w fun e w' => e = .returned (.bool (decide (off - h.base < h.cnt))) ∧ Below w.heap.size w w' := by
  have hb1 := below_new w (.cells #[.int .i64 h.base, .int .i64 h.cnt, .int .i64 h.time, .int .i64 h.stripe, .int .i64 h.ent] 95)
  have co : (w.alloc (.cells #[.int .i64 h.base, .int .i64 h.cnt, .int .i64 h.time, .int .i64 h.stripe, .int .i64 h.ent] 95)).cell? op = some (.int .i64 off) := (hb1.cell (cell_lt ho)).trans ho
  clear ho
  have HB := Lib.hid hb1
  go_enter Tryz.func97, Tryz.ntmps97
  go_wp2_with fail
  go_ret
  exact ⟨rfl, HB.out⟩
set_option maxRecDepth 100000 in
set_option maxHeartbeats 1000000 in
theorem search_any (P : Nat → Prop) (ib : Nat) (l : List Hd) (bp op : Addr) (off : Int) (w : World) (hi : IdxAt w P ib l) (hb : w.cell? bp = some (.pointer (some ⟨ib, 0, none⟩))) (ho : w.cell? op = some (.int .i64 off)) (hs : l.length ≤ 1000000)
    (hm : ∀ (i j : Nat) (x y : Int), i ≤ j → (marksOf l)[i]? = some x → (marksOf l)[j]? = some y → x ≤ y) :
    Calls Tryz.prog 94 #[.int .i64 ((marksOf l).length : Int), .func (.func 95) #[] #[.pointer (some bp), .pointer (some op)]] w
      fun e w' => ∃ m q : Nat, e = .returned (.int .i64 m) ∧ m ≤ (marksOf l).length ∧ (∀ (k : Nat) (z : Int), k < m → (marksOf l)[k]? = some z → z ≤ off) ∧ w' = w.drewN q := by
  obtain ⟨n, hn⟩ : ∃ n, (marksOf l).length = n := ⟨_, rfl⟩
  have hnl : n ≤ 1000000 := by rw [← hn, marks_len]; omega
  have HS := Lib.hid (fun (k : Nat) (z : Int) (q : Nat) (hk : (marksOf l)[k]? = some z) => seek1_any P ib l bp op off k z (w.drewN q) ⟨hi.at_, hi.own⟩ hb ho hk)
  have HM := Lib.hid hm
  have HN := Lib.hid hn
  rw [hn]
  clear hi hb ho hm hn
  go_enter Tryz.func94, Tryz.ntmps94
  go_wp2
  go_loopw [5, 6] (fun i j wr => ∃ a b q : Nat, a ≤ b ∧ b ≤ n ∧ i = .int .i64 a ∧ j = .int .i64 b ∧ Hid (∀ (k : Nat) (z : Int), k < a → (marksOf l)[k]? = some z → z ≤ off) ∧ wr = w.drewN q) (fun i j _ => (intOf j - intOf i).toNat)
  case atStart => exact ⟨0, n, 0, Nat.zero_le _, Nat.le_refl _, rfl, rfl, (fun k z hk => absurd hk (Nat.not_lt_zero k)), rfl⟩
  case round =>
    obtain ⟨a, b, q, hab, hbn, rfl, rfl, hlo, rfl⟩ := hrel
    by_cases hlt : a < b
    · have hi : (a : Int) < b := by omega
      obtain ⟨k, hk⟩ : ∃ k, (a + b) / 2 = k := ⟨_, rfl⟩
      have hka : a ≤ k ∧ k < b := by omega
      have hw1 : wrap64 ((a : Int) + b) = ((a + b : Nat) : Int) := by rw [IntWalk.wrap64_in _ ⟨by omega, by omega⟩]; omega
      obtain ⟨z, hz⟩ : ∃ z, (marksOf l)[k]? = some z := ⟨(marksOf l)[k]'(by have := HN.out; omega), List.getElem?_eq_getElem _⟩
      have HC := Lib.hid (HS.out k z q hz)
      have HZ := Lib.hid hz
      have hkk : ((a : Int) + b) / 2 = (k : Int) := by omega
      clear hk
      go_wp2_with fail
      with_reducible refine HC.out.mono ?_
      rintro er w1 ⟨rfl, q1, rfl⟩
      cases hd : decide (off < z)
      · have hd' : ¬ off < z := of_decide_eq_false hd
        have Hlo : Hid (∀ (k' : Nat) (z' : Int), k' < k + 1 → (marksOf l)[k']? = some z' → z' ≤ off) := fun k' z' h1 h2 => by
          have := HM.out k' k z' z (by omega) h2 HZ.out
          omega
        clear hd hd' hz hkk
        go_wp2_with fail
        go_roundw
        case rel => exact ⟨k + 1, b, q + q1, by omega, hbn, by go_num, rfl, Hlo, rfl⟩
        case measure => simp [intOf]; omega
      · clear hd hz hkk
        go_wp2_with fail
        go_roundw
        case rel => exact ⟨a, k, q + q1, by omega, by omega, rfl, rfl, hlo, rfl⟩
        case measure => simp [intOf]; omega
    · have hkn : a = b := by omega
      subst hkn
      go_wp2
      go_ret
      exact ⟨a, q, rfl, hbn, hlo.out, rfl⟩
set_option maxRecDepth 100000 in
set_option maxHeartbeats 1000000 in
theorem idxFunc_any (A : Option Addr) (n c : Nat) (l : List Hd) (op : Addr) (off : Int) (w : World) (hr : RdH w A n c l) (ho : w.cell? op = some (.int .i64 off)) (hw : ∀ h ∈ l, wrap64 (off - h.base) = off - h.base) :
    Calls Tryz.prog 129 #[.slice A n c, .func (.func 97) #[] #[.pointer (some op)]] w
      fun e w' => (∃ r : Int, e = .returned (.int .i64 r) ∧ ((seekM l off < n ∧ r = (seekM l off : Int)) ∨ (seekM l off = n ∧ r = -1))) ∧ Below w.heap.size w w' := by
  have hlen := hr.len
  have hcap := hr.cap
  have hbig := hr.big
  have HR := Lib.hid hr
  have HO := Lib.hid ho
  have HW := Lib.hid hw
  have hb0 := Lib.hid (Below.refl w.heap.size w)
  have HL := Lib.hid hlen
  clear hr ho hw hlen
  go_enter Tryz.func129, Tryz.ntmps129
  go_wp2
  go_loopw [8] (fun i wr => ∃ k : Nat, k ≤ n ∧ i = .int .i64 k ∧ Hid (∀ (j : Nat) (h : Hd), j < k → l[j]? = some h → decide (off - h.base < h.cnt) = false) ∧ Below w.heap.size w wr) (fun i _ => n - (intOf i).toNat)
  case atStart => exact ⟨0, Nat.zero_le _, rfl, (fun j h hj => absurd hj (Nat.not_lt_zero j)), hb0.out⟩
  case round =>
    obtain ⟨k, hk, rfl, hno, hbw⟩ := hrel
    have HBw := Lib.hid hbw
    clear hbw
    by_cases hlt : k < n
    · have hi : (k : Int) < n := by omega
      have hk0 : (0 : Int) ≤ (k : Int) := by omega
      obtain ⟨h, hh⟩ : ∃ h, l[k]? = some h := ⟨l[k]'(by have := HL.out; omega), List.getElem?_eq_getElem _⟩
      obtain ⟨g, o, rfl, hg, hce⟩ := (HR.out.ext HBw.out).cell k h hh
      have hld := ldH_at hce
      have HC := Lib.hid (seek2_any h op off wr ((HBw.out.cell (cell_lt HO.out)).trans HO.out) (HW.out h (List.mem_of_getElem? hh)))
      have HH := Lib.hid hh
      clear hce hh
      go_wp2_with fail
      with_reducible refine HC.out.mono ?_
      rintro er w1 ⟨rfl, hb1⟩
      have HB1 := Lib.hid (HBw.out.trans (below_le HBw.out.size hb1))
      clear hb1 hld HC
      cases hd : decide (off - h.base < h.cnt)
      · have Hno : Hid (∀ (j : Nat) (h : Hd), j < k + 1 → l[j]? = some h → decide (off - h.base < h.cnt) = false) := fun j h' h1 h2 => by
          by_cases e : j = k
          · subst e
            rw [HH.out] at h2
            cases h2
            exact hd
          · exact hno.out j h' (by omega) h2
        clear hd
        go_wp2_with fail
        go_roundw
        case rel => exact ⟨k + 1, by omega, by go_num, Hno, HB1.out⟩
        case measure => simp [intOf]; omega
      · have hsk : Hid (seekM l off = k) := by
          show l.findIdx _ = k
          have hkl : k < l.length := by have := HL.out; omega
          refine (List.findIdx_eq hkl).2 ⟨?_, fun j hj => hno.out j _ hj (List.getElem?_eq_getElem _)⟩
          have := HH.out
          rw [List.getElem?_eq_getElem hkl] at this
          rw [Option.some.inj this]
          exact hd
        clear hd
        go_wp2_with fail
        go_ret
        exact ⟨⟨_, rfl, .inl ⟨by rw [hsk.out]; exact hlt, by rw [hsk.out]⟩⟩, HB1.out⟩
    · have hkn : k = n := by omega
      subst hkn
      have hsk : Hid (seekM l off = k) := by
        show l.findIdx _ = k
        rw [← HL.out]
        refine List.findIdx_eq_length.2 (fun h hm => ?_)
        obtain ⟨j, hj⟩ := List.getElem?_of_mem hm
        exact hno.out j h (by have := (List.getElem?_eq_some_iff.1 hj).1; have := HL.out; omega) hj
      go_wp2
      go_ret
      exact ⟨⟨_, rfl, .inr ⟨hsk.out, rfl⟩⟩, HBw.out⟩
end Go.Proofs.YtjodiieeocaipaaGreatDoor

/-
  index: first, Seek, Drop.
-/
namespace Go.Proofs.YtjodiieeocaipaaGreatDoor
open Go.RowKit Go.Maps
attribute [local go_sem ↓] ldH_eq stH_eq sliced_past
attribute [local go_sem] pastA_zero

set_option maxRecDepth 100000 in
set_option maxHeartbeats 1000000 in
theorem idxFirst_any (P : Nat → Prop) (ib : Nat) (l : List Hd) (f : Nat) (op : Addr) (off : Int) (w : World) (hi : IdxAt w P ib l) (hf : f ≤ l.length) (hs : l.length ≤ 1000000) (ho : w.cell? op = some (.int .i64 off)) (hw : ∀ h ∈ l, wrap64 (off - h.base) = off - h.base) :
    Calls Tryz.prog 96 #[.pointer (some ⟨ib, 0, none⟩), .int .i64 f, .func (.func 97) #[] #[.pointer (some op)]] w
      fun e w' => e = .returned (.int .i64 ((f + seekM (l.drop f) off : Nat) : Int)) ∧ Below w.heap.size w w' := by
  have hi' := hi
  obtain ⟨⟨hv, mv, hb, ho', hm, h1, h2⟩, hp⟩ := hi
  obtain ⟨A, c, rfl, hr⟩ := own_heads ho'
  have hcap := hr.cap
  have hbig := hr.big
  have HB := Lib.hid hb
  have c1 : w.cell? ⟨ib, 1, none⟩ = some (.slice A l.length c) := hb.cell 1
  have HF := Lib.hid (idxFunc_any _ _ _ _ op off w (hr.past f hf) ho (fun h hm => hw h (List.mem_of_mem_drop hm)))
  have hf1 : (f : Int) ≤ (l.length : Int) := by omega
  have hf2 : (l.length : Int) ≤ (c : Int) := by omega
  have hf0 : (0 : Int) ≤ (f : Int) := by omega
  have hsl : seekM (l.drop f) off ≤ l.length - f := by
    have := List.findIdx_le_length (xs := l.drop f) (p := fun h => decide (off - h.base < h.cnt))
    rw [List.length_drop] at this
    exact this
  clear hb ho' hm h1 h2 hr hi' ho hw
  go_enter Tryz.func96, Tryz.ntmps96
  go_wp2_with fail
  with_reducible refine HF.out.mono ?_
  rintro er w1 ⟨⟨r, rfl, hr⟩, hb1⟩
  have c1' : w1.cell? ⟨ib, 1, none⟩ = some (.slice A l.length c) := (HB.out.ext hb1).cell 1
  rcases hr with ⟨hlt, rfl⟩ | ⟨heq, rfl⟩
  · have hn0 : ¬ ((seekM (l.drop f) off : Nat) : Int) < 0 := by omega
    have hwr : wrap64 ((f : Int) + (seekM (l.drop f) off : Nat)) = ((f + seekM (l.drop f) off : Nat) : Int) := by rw [IntWalk.wrap64_in _ ⟨by omega, by omega⟩]; omega
    go_wp2_with fail
    go_ret
    exact ⟨ret_int (by omega), hb1⟩
  · go_wp2_with fail
    go_ret
    exact ⟨ret_int (by rw [heq]; omega), hb1⟩
theorem seek_drop {l : List Hd} {off : Int} {k : Nat} (hk : k ≤ l.length) (h : ∀ i x, i < k → l[i]? = some x → decide (off - x.base < x.cnt) = false) : k + seekM (l.drop k) off = seekM l off := by
  unfold seekM
  have e : l = l.take k ++ l.drop k := (List.take_append_drop k l).symm
  conv => rhs; rw [e]
  rw [List.findIdx_append]
  have h1 : (l.take k).findIdx (fun h => decide (off - h.base < h.cnt)) = (l.take k).length := List.findIdx_eq_length.2 (fun x hx => by
    obtain ⟨i, hi⟩ := List.getElem?_of_mem hx
    rw [List.getElem?_take] at hi
    split at hi
    · rename_i hik
      exact h i x hik hi
    · cases hi)
  rw [h1, if_neg (Nat.lt_irrefl _), List.length_take, Nat.min_eq_left hk, Nat.add_comm]
theorem marks_mono {N : Nat} {L : LogM} (h : L.Ok N) : ∀ (i j : Nat) (x y : Int), i ≤ j → (marksOf L.heads)[i]? = some x → (marksOf L.heads)[j]? = some y → x ≤ y := by
  intro i j x y hij hx hy
  rw [marks_at] at hx hy
  obtain ⟨a, ha, rfl⟩ := Option.map_eq_some_iff.1 hx
  obtain ⟨b, hb, rfl⟩ := Option.map_eq_some_iff.1 hy
  by_cases e : i = j
  · subst e
    rw [ha] at hb
    cases hb
    exact Int.le_refl _
  · have hlt : 4 * i < 4 * j := by omega
    obtain ⟨h1, e1⟩ := List.getElem?_eq_some_iff.1 ha
    obtain ⟨h2, e2⟩ := List.getElem?_eq_some_iff.1 hb
    have := List.pairwise_iff_getElem.1 h.chain (4 * i) (4 * j) h1 h2 hlt
    rw [e1, e2] at this
    have hc := (h.each a (List.mem_of_getElem? ha)).2.1
    omega
theorem seek_from {N : Nat} {L : LogM} (h : L.Ok N) {off : Int} {m : Nat} (hm : m ≤ (marksOf L.heads).length) (hlo : ∀ (k : Nat) (z : Int), k < m → (marksOf L.heads)[k]? = some z → z ≤ off) :
    (m - 1) * 4 ≤ L.heads.length ∧ ∀ i x, i < (m - 1) * 4 → L.heads[i]? = some x → decide (off - x.base < x.cnt) = false := by
  rw [marks_len] at hm
  refine ⟨by omega, fun i x hi hx => ?_⟩
  have hlt : 4 * (m - 1) < L.heads.length := by omega
  have hz := hlo (m - 1) (L.heads[4 * (m - 1)].base) (by omega) (by rw [marks_at, List.getElem?_eq_getElem hlt]; rfl)
  obtain ⟨h1, e1⟩ := List.getElem?_eq_some_iff.1 hx
  have := List.pairwise_iff_getElem.1 h.chain i (4 * (m - 1)) h1 hlt (by omega)
  rw [e1] at this
  rw [decide_eq_false_iff_not]
  omega
set_option maxRecDepth 100000 in
set_option maxHeartbeats 1000000 in
theorem idxSeek_any (P : Nat → Prop) (ib N : Nat) (L : LogM) (off : Int) (w : World) (hi : IdxAt w P ib L.heads) (hL : L.Ok N) (hN : N ≤ 1000000) (ho : 0 ≤ off ∧ off ≤ maxI) :
    Calls Tryz.prog 69 #[.pointer (some ⟨ib, 0, none⟩), .int .i64 off] w fun e w' => e = .returned (.int .i64 (seekM L.heads off)) ∧ Below w.heap.size w w' := by
  have hlen : L.heads.length ≤ 1000000 := Nat.le_trans hL.few hN
  have hwr : ∀ h ∈ L.heads, wrap64 (off - h.base) = off - h.base := fun h hm => by
    have h1 := hL.each h hm
    have h2 := hL.big
    unfold maxI at h2 ho
    exact IntWalk.wrap64_in _ ⟨by omega, by omega⟩
  have hb2 := (below_new w (.cells #[.pointer (some ⟨ib, 0, none⟩)] 79)).trans (below_le (below_new w (.cells #[.pointer (some ⟨ib, 0, none⟩)] 79)).size (below_new _ (.cells #[.int .i64 off] 3)))
  have hi2 := hi.turned (Turned.of_below (P := fun _ => False) hb2) (fun _ _ _ => id)
  have cp : ((w.alloc (.cells #[.pointer (some ⟨ib, 0, none⟩)] 79)).alloc (.cells #[.int .i64 off] 3)).cell? ⟨w.heap.size, 0, none⟩ = some (.pointer (some ⟨ib, 0, none⟩)) := ((Bk.made w _ _).alloc _).cell 0
  have co : ((w.alloc (.cells #[.pointer (some ⟨ib, 0, none⟩)] 79)).alloc (.cells #[.int .i64 off] 3)).cell? ⟨w.heap.size + 1, 0, none⟩ = some (.int .i64 off) := (Bk.made_at _ (w.heap.size + 1) _ _ (by simp)).cell 0
  have HS := Lib.hid (search_any P ib L.heads _ _ off _ hi2 cp co hlen (marks_mono hL))
  have HB := Lib.hid hb2
  have HI := Lib.hid hi2
  obtain ⟨⟨hv, mv, hb, ho', hm, h1, h2⟩, hp⟩ := hi2
  obtain ⟨Am, cm, rfl, _⟩ := ints_cell hm
  have c0 := hb.cell 0
  have c2 := hb.cell 2
  have c0 : ((w.alloc (.cells #[.pointer (some ⟨ib, 0, none⟩)] 79)).alloc (.cells #[.int .i64 off] 3)).cell? ⟨ib, 0, none⟩ = some (.int .i64 4) := c0
  have c2 : ((w.alloc (.cells #[.pointer (some ⟨ib, 0, none⟩)] 79)).alloc (.cells #[.int .i64 off] 3)).cell? ⟨ib, 2, none⟩ = some (.slice Am (marksOf L.heads).length cm) := c2
  clear hb ho' hm h1 h2 hi hb2
  go_enter Tryz.func69, Tryz.ntmps69
  go_upto_region 1 with fail
  generalize (w.alloc (.cells #[.pointer (some ⟨ib, 0, none⟩)] 79)).alloc (.cells #[.int .i64 off] 3) = W at cp co HS HB HI c0 c2 ⊢
  go_wp2_with fail
  with_reducible refine HS.out.mono ?_
  rintro er w1 ⟨m, q, rfl, hm, hlo, rfl⟩
  obtain ⟨hf, hno⟩ := seek_from hL hm hlo
  have Hm := Lib.hid hm
  have hs := seek_drop hf hno
  have HI2 : Hid (IdxAt (W.drewN q).drew P ib L.heads) := ⟨HI.out.at_, HI.out.own⟩
  have co' : (W.drewN q).drew.cell? ⟨w.heap.size + 1, 0, none⟩ = some (.int .i64 off) := co
  have HF := Lib.hid (idxFirst_any P ib L.heads ((m - 1) * 4) ⟨w.heap.size + 1, 0, none⟩ off _ HI2.out hf hlen co' hwr)
  rw [hs] at HF
  have hml := marks_len L.heads
  have hm6 : m ≤ 1000004 := by omega
  have e1 : IntKind.i64.wrap ((m : Int) - 1) = (m : Int) - 1 := by rw [IntKind.wrap_i64]; omega
  have e2 : max ((m : Int) - 1) 0 = ((m - 1 : Nat) : Int) := by omega
  have e3 : IntKind.i64.wrap (((m - 1 : Nat) : Int) * 4) = (((m - 1) * 4 : Nat) : Int) := by rw [IntKind.wrap_i64]; omega
  have hbw := below_drawn HB.out q
  have cp2 : (W.drewN q).cell? ⟨w.heap.size, 0, none⟩ = some (.pointer (some ⟨ib, 0, none⟩)) := cp
  have c02 : (W.drewN q).cell? ⟨ib, 0, none⟩ = some (.int .i64 4) := c0
  clear hml hf hno hs hlo hm HI HI2 co co' c0 c2 cp HS hwr
  generalize W.drewN q = W2 at cp2 c02 HF hbw ⊢
  have HBW := Lib.hid hbw
  clear hbw
  go_upto_region 2 with fail
  go_still_tail 10, (by kernel_rfl)
  change wpList _ _ _ _ _ W2.drew
  have e4 : (((m - 1) * 4 : Nat) : Int) = ((m - 1 : Nat) : Int) * 4 := by omega
  rw [e4] at HF
  clear e1 e2 e3 e4 cp2 c02
  go_wp2_with fail
  with_reducible refine HF.out.mono ?_
  rintro er w3 ⟨rfl, hb3⟩
  have hbx := HBW.out.trans (below_le HBW.out.size (show Below W2.heap.size W2 w3 from (below_drew1 (Below.refl W2.heap.size W2)).trans hb3))
  clear hb3 HF
  go_wp2_with fail
  go_ret
  exact ⟨rfl, hbx⟩
theorem IdxAt.ext {w w' : World} {P : Nat → Prop} {ib : Nat} {l : List Hd} (h : IdxAt w P ib l) (hb : Below w.heap.size w w') : IdxAt w' P ib l := h.turned (Q := fun _ => False) (Turned.of_below hb) (fun _ _ _ => id)
theorem Turned.cell {P : Nat → Prop} {w w' : World} (h : Turned P w w') {p : Addr} (hp : p.block < w.heap.size) (hn : ¬ P p.block) : w'.cell? p = w.cell? p := by
  simp [World.cell?, h.block p.block hp hn]
theorem pastA_block {A : Option Addr} {k c s : Nat} {ad : Addr} (h : pastA A k c s = some ad) : ∃ ad', A = some ad' ∧ ad'.block = ad.block := by
  unfold pastA at h
  split at h
  · exact ⟨ad, h, rfl⟩
  · cases A with
    | none => cases h
    | some a =>
      have h : some (a.add (k * s)) = some ad := h
      injection h with h
      exact ⟨a, rfl, by rw [← h, add_block]⟩
/-- the blocks of an index that is filled anew -/
def Anew (ib : Nat) (w : World) (i : Nat) : Prop := i = ib ∨ w.heap.size ≤ i
set_option maxRecDepth 100000 in
set_option maxHeartbeats 1000000 in
theorem idxDrop_any (P : Nat → Prop) (ib : Nat) (l : List Hd) (k : Nat) (w : World) (hi : IdxAt w P ib l) (hs : l.length ≤ 1000000) (hk : k ≤ l.length) :
    Calls Tryz.prog 83 #[.pointer (some ⟨ib, 0, none⟩), .int .i64 k] w fun e w' => e = .returned (.tuple #[]) ∧ IdxAt w' (Wide P w) ib (l.drop k) ∧ Turned P w w' := by
  obtain ⟨⟨hv, mv, hb, ho, hm, h1, h2⟩, hp⟩ := hi
  obtain ⟨A, c, rfl, hr⟩ := own_heads ho
  have hcap := hr.cap
  have hbig := hr.big
  have c1 : ∀ q, (w.drewN q).cell? ⟨ib, 1, none⟩ = some (.slice A l.length c) := fun q => hb.cell 1
  have e1 : max (k : Int) 0 = (k : Int) := by omega
  have e2 : min (l.length : Int) (k : Int) = (k : Int) := by omega
  have k1 : (0 : Int) ≤ (k : Int) := by omega
  have k2 : (k : Int) ≤ (l.length : Int) := by omega
  have k3 : (l.length : Int) ≤ (c : Int) := by omega
  have Hb := Lib.hid hb
  have HR := Lib.hid hr
  have HK := Lib.hid hk
  have H1 := Lib.hid h1
  have Hs := Lib.hid hs
  have hfar : ∀ ad, pastA A k c 5 = some ad → ad.block ≠ ib := fun ad e => by
    obtain ⟨ad', rfl, e2⟩ := pastA_block e
    have := own_ne hb ho (by decide)
    exact fun e3 => this (by show some ad'.block = _; rw [e2, e3])
  have Hfar := Lib.hid hfar
  have HL := Lib.hid (hr.past k hk)
  clear hb ho hm hr h1 h2 hk hs hfar
  go_enter Tryz.func83, Tryz.ntmps83
  go_upto_region 0 with fail
  go_quiet (fail)
  have hk0 : Bk (w.drewN nq) ib 136 #[.int .i64 4, .slice A l.length c, mv] := Hb.out
  have f1 := hk0.thaw 1
  have f2 := (hk0.put 1 (.slice none 0 0)).thaw 2
  have c1' := hk0.cell 1
  have c2' := (hk0.put 1 (.slice none 0 0)).cell 2
  have hk2 := (hk0.put 1 (.slice none 0 0)).put 2 (.slice none 0 0)
  have ht2 : Turned (Anew ib w) w (((w.drewN nq).setCell ⟨ib, 1, none⟩ (.slice none 0 0)).setCell ⟨ib, 2, none⟩ (.slice none 0 0)) :=
    ((Turned.of_below (below_drawn (Below.refl w.heap.size w) nq)).then_grown (grown_set _ ⟨ib, 1, none⟩ (.slice none 0 0)) (fun j e => .inl (.inl (Option.some.inj e).symm))).then_grown (grown_set _ ⟨ib, 2, none⟩ (.slice none 0 0)) (fun j e => .inl (.inl (Option.some.inj e).symm))
  have HI2 : Hid (IdxAt (((w.drewN nq).setCell ⟨ib, 1, none⟩ (.slice none 0 0)).setCell ⟨ib, 2, none⟩ (.slice none 0 0)) (Anew ib w) ib []) :=
    ⟨⟨_, _, hk2, World.ownsRow_nil _ _ _ _, World.ownsRow_nil _ _ _ _, (fun g e => by cases e), (fun g e => by cases e)⟩, .inl rfl⟩
  have HT2 := Lib.hid ht2
  clear hk0 hk2 ht2 c1
  go_upto_region 2 with fail
  clear f1 f2 c1' c2' Hb HR
  generalize ((w.drewN nq).setCell ⟨ib, 1, none⟩ (.slice none 0 0)).setCell ⟨ib, 2, none⟩ (.slice none 0 0) = W at HI2 HT2 ⊢
  obtain ⟨A2, hA2⟩ : ∃ A2, pastA A k c 5 = A2 := ⟨_, rfl⟩
  obtain ⟨n2, hn2⟩ : ∃ n2, l.length - k = n2 := ⟨_, rfl⟩
  obtain ⟨d2, hd2⟩ : ∃ d2, c - k = d2 := ⟨_, rfl⟩
  obtain ⟨L2, hL2⟩ : ∃ L2, l.drop k = L2 := ⟨_, rfl⟩
  rw [hA2, hn2, hd2, hL2] at HL
  rw [hA2] at Hfar
  rw [hA2, hn2, hd2]
  have HL2 := Lib.hid hL2
  have hcap2 := HL.out.cap
  have hbig2 := HL.out.big
  have Hn2 := Lib.hid HL.out.len
  have Hsm := Lib.hid (show n2 ≤ 1000000 by have := Hs.out; omega)
  clear hA2 hn2 hd2 hL2 e1 e2 k1 k2 k3 hcap hbig HK Hs
  go_wp2
  go_loopw [28] (fun i wr => ∃ j : Nat, j ≤ n2 ∧ i = .int .i64 j ∧ Hid (IdxAt wr (Anew ib w) ib (L2.take j)) ∧ Hid (Turned (Anew ib w) w wr)) (fun i _ => n2 - (intOf i).toNat)
  case atStart => exact ⟨0, Nat.zero_le _, rfl, HI2, HT2⟩
  case round =>
    obtain ⟨j, hj, rfl, hix, htx⟩ := hrel
    by_cases hlt : j < n2
    · have hi : (j : Int) < n2 := by omega
      have hj0 : (0 : Int) ≤ (j : Int) := by omega
      obtain ⟨h, hh⟩ : ∃ h, L2[j]? = some h := ⟨L2[j]'(by have := Hn2.out; omega), List.getElem?_eq_getElem _⟩
      obtain ⟨g, o, rfl, hg, hce⟩ := HL.out.cell j h hh
      have hgn : g ≠ ib := Hfar.out ⟨g, o, none⟩ rfl
      have hld := ldH_at (w := wr) (g := g) (o := o + j * 5) (h := h) (fun i u hu => (htx.out.cell (p := ⟨g, o + j * 5 + i, none⟩) hg (fun hx => by rcases hx with hx | hx; exact hgn hx; exact absurd hg (Nat.not_lt.2 hx))).trans (hce i u hu))
      have hst := run_storeAt_new wr 95 (zHd) (hdR h) size_hd rfl (all_oneCell_toArray (one_all rfl))
      have hbn := below_new wr (.cells (hdR h) 95)
      have hld2 := ldH_bk (Bk.made wr 95 (hdR h))
      have HI3 := Lib.hid (hix.out.ext hbn)
      have HT3 := Lib.hid (htx.out.then_below hbn)
      have HH := Lib.hid hh
      have Hjs := Lib.hid (show (L2.take j).length ≤ 1000000 by rw [List.length_take]; have := Hsm.out; omega)
      have hst : (stH (.pointer (some ⟨wr.heap.size, 0, none⟩)) (.agg (hdR h))).run Tryz.prog (wr.alloc (.cells zHd 95)) = .ok () (wr.alloc (.cells (hdR h) 95)) := hst
      unfold hdR zHd at hst
      unfold hdR at hld2 HI3 HT3
      clear hce hh hbn
      go_wp2_with fail
      refine (idxAdd_any (Anew ib w) ib (L2.take j) h _ HI3.out Hjs.out).mono ?_
      rintro er w2 ⟨rfl, hi2, ht2⟩
      have HT4 := Lib.hid (HT3.out.wide (ht2.more (fun i _ hq => .inl hq)))
      have HI4 : Hid (IdxAt w2 (Anew ib w) ib (L2.take (j + 1))) := by
        show IdxAt w2 (Anew ib w) ib (L2.take (j + 1))
        rw [List.take_add_one, HH.out]
        refine hi2.more (fun i _ hq => ?_)
        rcases hq with hq | hq
        · exact hq
        · exact .inr (Nat.le_trans HT3.out.size hq)
      clear hi2 ht2 hld hst hld2
      go_wp2_with fail
      go_roundw
      case rel => exact ⟨j + 1, by omega, by go_num, HI4, HT4⟩
      case measure => simp [intOf]; omega
    · have hjn : j = n2 := by omega
      subst hjn
      go_wp2
      go_end0
      rw [HL2.out]
      have h3 := hix.out
      rw [List.take_of_length_le (by rw [Hn2.out]; exact Nat.le_refl _)] at h3
      refine ⟨rfl, h3.more (fun i _ hq => ?_), htx.out.more (fun i hi hq => ?_)⟩
      · rcases hq with rfl | hq
        · exact .inl hp
        · exact .inr hq
      · rcases hq with rfl | hq
        · exact hp
        · omega
end Go.Proofs.YtjodiieeocaipaaGreatDoor
