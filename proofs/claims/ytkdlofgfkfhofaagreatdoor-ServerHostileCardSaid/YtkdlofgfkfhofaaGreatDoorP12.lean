import Derived.Test.YtkdlofgfkfhofaaGreatDoorP11
import Derived.Deep.WholeRow
import Derived.Deep.MidRow
import Derived.Test.YtkdlofgfkfhofaaGreatDoorP09
import Derived.Test.YtkdlofgfkfhofaaGreatDoorP04
/-
  code: chosen.
-/
namespace Go.Proofs.YtkdlofgfkfhofaaGreatDoor
open Go.RowKit Go.Maps

/-- the cells of parts, each at its own place -/
def prtC (vs : Nat → Value) (n : Nat) : List Value := (List.range n).flatMap fun (i : Nat) => [.int .i64 (i : Int), vs i]
theorem prtC_len (vs : Nat → Value) (n : Nat) : (prtC vs n).length = n * 2 := by
  unfold prtC
  induction n with
  | zero => rfl
  | succ n ih =>
    rw [List.range_succ, List.flatMap_append, List.length_append, ih]
    simp
    omega
theorem prtC_succ (vs : Nat → Value) (n : Nat) : prtC vs (n + 1) = prtC vs n ++ [.int .i64 (n : Int), vs n] := by
  unfold prtC
  rw [List.range_succ, List.flatMap_append]
  rfl
theorem prtC_get (vs : Nat → Value) : ∀ (n i : Nat), i < n → (prtC vs n)[2 * i]? = some (.int .i64 (i : Int)) ∧ (prtC vs n)[2 * i + 1]? = some (vs i)
  | 0, i, h => by omega
  | n + 1, i, h => by
    rw [prtC_succ]
    have hl := prtC_len vs n
    by_cases e : i < n
    · obtain ⟨h1, h2⟩ := prtC_get vs n i e
      rw [List.getElem?_append_left (by omega), List.getElem?_append_left (by omega)]
      exact ⟨h1, h2⟩
    · have e2 : i = n := by omega
      subst e2
      rw [List.getElem?_append_right (by omega), List.getElem?_append_right (by omega), hl, show 2 * i - i * 2 = 0 by omega, show 2 * i + 1 - i * 2 = 1 by omega]
      exact ⟨rfl, rfl⟩
/-- parts of disks from the first on -/
structure PartsAt (w : World) (B : Nat) (v : Value) (vs : Nat → Value) (n L : Nat) (Ls : Nat → List UInt8) : Prop where
  own : w.ownsRow B 408 2 v n (prtC vs n)
  row : ∀ i, i < n → (Ls i).length = L ∧ ∃ A c, vs i = .slice A L c ∧ RdB w A L c (Ls i)
theorem PartsAt.ext {w w' : World} {B n L : Nat} {v : Value} {vs : Nat → Value} {Ls : Nat → List UInt8} (h : PartsAt w B v vs n L Ls) (hb : Below w.heap.size w w') : PartsAt w' B v vs n L Ls :=
  ⟨own_turned (P := fun _ => False) h.own (Turned.of_below hb) (fun _ _ => id), fun i hi => by
    obtain ⟨h0, A, c, h1, h2⟩ := h.row i hi
    exact ⟨h0, A, c, h1, h2.ext hb⟩⟩
theorem PartsAt.open_ {w : World} {B n L : Nat} {v : Value} {vs : Nat → Value} {Ls : Nat → List UInt8} (h : PartsAt w B v vs n L Ls) : ∃ A c, v = .slice A n c ∧ ∀ k, k < n → ∃ g, A = some ⟨g, 0, none⟩ ∧ B ≤ g ∧ g < w.heap.size ∧ w.cell? ⟨g, 2 * k, none⟩ = some (.int .i64 (k : Int)) ∧ w.cell? ⟨g, 2 * k + 1, none⟩ = some (vs k) := by
  rcases h.own.2 with ⟨h1, h2⟩ | ⟨g, cap, cur, h1, h2, h3, h4, h5, h6, h7⟩
  · refine ⟨none, 0, by rw [h1, h2], fun k hk => by omega⟩
  · refine ⟨_, cap, h1, fun k hk => ?_⟩
    have hb : Bk w g 408 cur := h3
    obtain ⟨p1, p2⟩ := prtC_get vs n k hk
    have h8 : ∀ j, j < n * 2 → cur[j]? = (prtC vs n)[j]? := fun j hj => by
      rw [← h7, List.getElem?_take, if_pos hj, Array.getElem?_toList]
    exact ⟨g, rfl, h2, (Array.getElem?_eq_some_iff.1 h3).1, (hb.cell _).trans ((h8 _ (by omega)).trans p1), (hb.cell _).trans ((h8 _ (by omega)).trans p2)⟩
theorem info_prt : (Tryz.prog.info? 408).map (fun i => (i.zero, i.size, i.bytes)) = some (some (.agg #[.int .i64 0, .slice none 0 0]), 2, 32) := by kernel_rfl
def ldP (v : Value) : Sem Value := Instr.loadAt 408 v
theorem ldP_eq (v : Value) : Instr.loadAt 408 v = ldP v := rfl
def stP (v u : Value) : Sem Unit := Instr.storeAt 408 v u
theorem stP_eq (v u : Value) : Instr.storeAt 408 v u = stP v u := rfl
theorem size_prt : (Tryz.prog.info? 408).map (·.size) = some 2 := by kernel_rfl
theorem ldP_at {w : World} {g o : Nat} {x y : Value} (h1 : w.cell? ⟨g, o, none⟩ = some x) (h2 : w.cell? ⟨g, o + 1, none⟩ = some y) : (ldP (.pointer (some ⟨g, o, none⟩))).run Tryz.prog w = .ok (.agg #[x, y]) w :=
  run_loadAt_mid w g o 408 [x, y] _ (fun j v hv => by
    match j, hv with
    | 0, hv => injection hv with hv; rw [← hv]; exact h1
    | 1, hv => injection hv with hv; rw [← hv]; exact h2
    | j + 2, hv => cases hv) Tryz.underlying408 rfl size_prt
theorem stP_new (w : World) (a b x y : Value) (hx : x.oneCell' = true) (hy : y.oneCell' = true) : (stP (.pointer (some ⟨w.heap.size, 0, none⟩)) (.agg #[x, y])).run Tryz.prog (w.alloc (.cells #[a, b] 408)) = .ok () (w.alloc (.cells #[x, y] 408)) :=
  run_storeAt_new w 408 _ _ size_prt rfl (by simp [hx, hy])
/-- which places were met -/
def metC (q : Nat) : Array Value := ((List.range 8).map fun i => Value.int .i64 (if i < q then 1 else 0)).toArray
theorem metC_zero : metC 0 = #[.int .i64 0, .int .i64 0, .int .i64 0, .int .i64 0, .int .i64 0, .int .i64 0, .int .i64 0, .int .i64 0] := rfl
theorem metC_get {q i : Nat} (hi : i < 8) : (metC q)[i]? = some (.int .i64 (if i < q then 1 else 0)) := by
  unfold metC
  rw [List.getElem?_toArray, List.getElem?_map, List.getElem?_range hi]
  rfl
theorem metC_put (q : Nat) : (metC q).setIfInBounds q (.int .i64 1) = metC (q + 1) := by
  apply Array.ext_getElem?
  intro i
  have hsz : ∀ q, (metC q).size = 8 := fun q => by simp [metC]
  rw [Array.getElem?_setIfInBounds, hsz]
  by_cases hi : i < 8
  · rw [metC_get hi, metC_get hi]
    by_cases e : q = i
    · subst e
      rw [if_pos rfl, if_pos hi, if_pos (by omega)]
    · rw [if_neg e]
      by_cases h : i < q
      · rw [if_pos h, if_pos (by omega)]
      · rw [if_neg h, if_neg (by omega)]
  · have h1 : ∀ q, (metC q)[i]? = none := fun q => Array.getElem?_eq_none (by rw [hsz]; omega)
    rw [h1, h1]
    by_cases e : q = i
    · rw [if_pos e, if_neg (by omega)]
    · rw [if_neg e]
theorem own_notT {w : World} {B n sz g : Nat} {e t : TypeId} {v : Value} {xs : List Value} {cs : Array Value} {fr : Nat × Nat} (h : w.ownsRow B e sz v n xs) (hg : v.ownBlock = some g) (hk : w.heap[g]? = some (.cells cs t fr)) (ht : t ≠ e) : False := by
  rcases h.2 with ⟨rfl, _⟩ | ⟨g', cap', cur, rfl, _, h3, _⟩
  · cases hg
  · have e2 : g' = g := Option.some.inj hg
    rw [e2, hk] at h3
    injection h3 with h3
    injection h3 with _ h3
    exact ht h3
theorem own_notB {w : World} {B n sz g g' : Nat} {e t : TypeId} {v : Value} {xs : List Value} {cs : Array Value} (h : w.ownsRow B e sz v n xs) (hg : v.ownBlock = some g) (hk : Bk w g' t cs) (eg : g = g') (ht : t ≠ e) : False := by
  subst eg
  exact own_notT h hg hk ht
theorem cell_new2 (w : World) (t : TypeId) (x y : Value) : ∀ j u, [x, y][j]? = some u → (w.alloc (.cells #[x, y] t)).cell? ((⟨w.heap.size, 0, none⟩ : Addr).add j) = some u := fun j u hu => by
  rw [Addr.add_none, cell_of_row _ _ _ _ _ _ (heap_alloc_new w _), ← hu, Nat.zero_add]
  simp
theorem one_2 (z : Int) (A : Option Addr) (n c : Nat) : ∀ u ∈ [Value.int .i64 z, Value.slice A n c], u.oneCell' = true := by
  intro u hu
  rcases List.mem_cons.1 hu with rfl | hu
  · rfl
  · rw [List.mem_singleton] at hu
    subst hu
    rfl
attribute [local go_sem ↓] ldP_eq stP_eq
set_option maxRecDepth 100000 in
set_option maxHeartbeats 4000000 in
theorem chosen_any {B c f k : Nat} {cv : Value} {cvs : Nat → Value} {Cs : List (List UInt8)} {w : World} (hC : CodeP w B c f k cv cvs Cs) {B' m L : Nat} {v : Value} {vs : Nat → Value} {Ls : Nat → List UInt8} (hP : PartsAt w B' v vs m L Ls) (hk : 1 ≤ k) (hm : k ≤ m) (h8 : m ≤ 8) :
    Calls Tryz.prog 255 #[.pointer (some ⟨c, 0, none⟩), v] w fun e w' => ∃ u, e = .returned u ∧ PartsAt w' w.heap.size u vs k L Ls ∧ Below w.heap.size w w' := by
  obtain ⟨ii, hi0, hz0, hs0, hy0⟩ := info_parts info_prt
  have HI := Lib.hid hi0
  have HZ := Lib.hid hz0
  have HSz := Lib.hid hs0
  have HY := Lib.hid hy0
  obtain ⟨A, cc, rfl, hcell⟩ := hP.open_
  have c0 : w.cell? ⟨c, 0, none⟩ = some (.int .i64 (k : Int)) := hC.bk.cell 0
  have HC := Lib.hid hC
  have HP := Lib.hid hP
  have HCell := Lib.hid hcell
  clear hi0 hz0 hs0 hy0 hC hP hcell
  go_enter Tryz.func255, Tryz.ntmps255
  go_wp2_with fail
  have H0 : Hid (Bk (w.alloc (.cells #[.int .i64 0, .int .i64 0, .int .i64 0, .int .i64 0, .int .i64 0, .int .i64 0, .int .i64 0, .int .i64 0] 449)) w.heap.size 449 (metC 0)) := by
    rw [metC_zero]
    exact Bk.made _ _ _
  have HB0 := Lib.hid (below_new w (.cells #[.int .i64 0, .int .i64 0, .int .i64 0, .int .i64 0, .int .i64 0, .int .i64 0, .int .i64 0, .int .i64 0] 449))
  obtain ⟨g, hg⟩ : ∃ g, g = w.heap.size := ⟨_, rfl⟩
  rw [← hg] at H0 ⊢
  have HG := Lib.hid hg
  generalize w.alloc (.cells #[.int .i64 0, .int .i64 0, .int .i64 0, .int .i64 0, .int .i64 0, .int .i64 0, .int .i64 0, .int .i64 0] 449) = W0 at H0 HB0 ⊢
  clear hg
  go_loopw [5, 11] (fun u i wr => ∃ j : Nat, j ≤ m ∧ i = .int .i64 j ∧ Hid (wr.ownsRow w.heap.size 408 2 u (min j k) (prtC vs (min j k))) ∧ Hid (Bk wr g 449 (metC (min j k))) ∧ Hid (Below w.heap.size w wr)) (fun _ i _ => m - (intOf i).toNat)
  case atStart => exact ⟨0, Nat.zero_le _, rfl, World.ownsRow_nil _ _ _ _, H0, HB0⟩
  case round =>
    obtain ⟨j, hj, rfl, hU, hM, hB⟩ := hrel
    clear H0 HB0
    by_cases hlt : j < m
    · have hi : (j : Int) < m := by omega
      obtain ⟨gp, e, _, hgp, p1, p2⟩ := HCell.out j hlt
      subst e
      obtain ⟨hLj, Aj, cj, hvj, _⟩ := HP.out.row j hlt
      rw [hvj] at p2
      have p1r : wr.cell? ⟨gp, j * 2, none⟩ = some (.int .i64 (j : Int)) := (hB.out.cell (p := ⟨gp, j * 2, none⟩) hgp).trans (by rw [Nat.mul_comm]; exact p1)
      have p2r : wr.cell? ⟨gp, j * 2 + 1, none⟩ = some (.slice Aj L cj) := (hB.out.cell (p := ⟨gp, j * 2 + 1, none⟩) hgp).trans (by rw [Nat.mul_comm]; exact p2)
      obtain ⟨q, hq⟩ : ∃ q, min j k = q := ⟨_, rfl⟩
      rw [hq] at hU hM
      have m1 : wr.cell? ⟨g, j, none⟩ = some (.int .i64 (if j < q then 1 else 0)) := (hM.out.cell j).trans (metC_get (by omega))
      rw [if_neg (by omega)] at m1
      have c0r : wr.cell? ⟨c, 0, none⟩ = some (.int .i64 (k : Int)) := (HC.out.ext hB.out).bk.cell 0
      have hu2 : ∃ A c, u5 = .slice A q c := by
        rcases hU.out.2 with ⟨rfl, h0⟩ | ⟨g, cap, cur, rfl, _⟩
        · exact ⟨none, 0, by rw [h0]⟩
        · exact ⟨_, _, rfl⟩
      obtain ⟨Au, cu, rfl⟩ := hu2
      have hld := ldP_at p1r p2r
      have hst := stP_new wr (.int .i64 0) (.slice none 0 0) (.int .i64 (j : Int)) (.slice Aj L cj) rfl rfl
      have hbn := below_new wr (.cells #[.int .i64 (j : Int), .slice Aj L cj] 408)
      have hkn := Bk.made wr 408 #[.int .i64 (j : Int), .slice Aj L cj]
      have HBn := Lib.hid hbn
      have HKn := Lib.hid hkn
      have m2 : (wr.alloc (.cells #[.int .i64 (j : Int), .slice Aj L cj] 408)).cell? ⟨g, j, none⟩ = some (.int .i64 0) := ((hM.out.ext hbn).cell j).trans ((hM.out.cell j).symm.trans m1)
      have c2 : (wr.alloc (.cells #[.int .i64 (j : Int), .slice Aj L cj] 408)).cell? ⟨c, 0, none⟩ = some (.int .i64 (k : Int)) := (hbn.cell (p := ⟨c, 0, none⟩) (cell_ltD c0r)).trans c0r
      have n0 : (wr.alloc (.cells #[.int .i64 (j : Int), .slice Aj L cj] 408)).cell? ⟨wr.heap.size, 0, none⟩ = some (.int .i64 (j : Int)) := hkn.cell 0
      have f2 : (wr.alloc (.cells #[.int .i64 (j : Int), .slice Aj L cj] 408)).frozen? ⟨g, j, none⟩ = false := (hM.out.ext hbn).thaw j
      have hvj2 := Lib.hid hvj
      by_cases hjk : j < k
      · have eq : q = j := by omega
        subst eq
        have qk : ((q : Int) == (k : Int)) = false := by rw [beq_eq_false_iff_ne]; omega
        have hgg : g ≠ wr.heap.size := by have := hM.out.lt; omega
        have hs1 := (hM.out.ext hbn).put q (.int .i64 1)
        rw [metC_put] at hs1
        have hk1 : Bk ((wr.alloc (.cells #[.int .i64 (q : Int), .slice Aj L cj] 408)).setCell ⟨g, q, none⟩ (.int .i64 1)) wr.heap.size 408 #[.int .i64 (q : Int), .slice Aj L cj] := hkn.far (p := ⟨g, q, none⟩) (fun e => hgg e.symm) _
        have hgs := grown_set (wr.alloc (.cells #[.int .i64 (q : Int), .slice Aj L cj] 408)) ⟨g, q, none⟩ (.int .i64 1)
        have hB1 : Below w.heap.size w ((wr.alloc (.cells #[.int .i64 (q : Int), .slice Aj L cj] 408)).setCell ⟨g, q, none⟩ (.int .i64 1)) := below_grown (hB.out.trans (below_le hB.out.size hbn)) (Nat.le_trans hB.out.size hbn.size) hgs (by rw [HG.out]; exact Nat.le_refl _)
        have ht1 : Turned (fun b => b = g) wr ((wr.alloc (.cells #[.int .i64 (q : Int), .slice Aj L cj] 408)).setCell ⟨g, q, none⟩ (.int .i64 1)) := (Turned.of_below (P := fun b => b = g) hbn).then_grown hgs (fun k e => .inl (Option.some.inj e).symm)
        have hown1 : Hid (((wr.alloc (.cells #[.int .i64 (q : Int), .slice Aj L cj] 408)).setCell ⟨g, q, none⟩ (.int .i64 1)).ownsRow w.heap.size 408 2 (.slice Au q cu) q (prtC vs q)) := own_turned hU.out ht1 (fun b hb e => own_notB hU.out hb hM.out e (by decide))
        have hld2 := ldP_at (hk1.cell 0) (hk1.cell 1)
        have HS1 := Lib.hid hs1
        have HB1 := Lib.hid hB1
        clear hbn hkn hs1 hB1 ht1 hgs hvj
        generalize hW1 : (wr.alloc (.cells #[.int .i64 (q : Int), .slice Aj L cj] 408)).setCell ⟨g, q, none⟩ (.int .i64 1) = W1 at hk1 hown1 hld2 HS1 HB1
        have HBn2 := Lib.hid (below_new W1 (.cells #[.int .i64 (q : Int), .slice Aj L cj] 408))
        have HOw := Lib.hid (own_turned (P := fun _ => False) hown1.out (Turned.of_below HBn2.out) (fun _ _ => id))
        clear hk1
        go_wp2_with (first | (at_builtin; go_loud (refine wpList_append_gen rfl (.tmp 32) (.tmp 34) 364 rfl 408 ii _ 2 32 Tryz.underlying364 HI.out HZ.out HSz.out HY.out rfl (by omega) w.heap.size w _ q (prtC vs q) rfl HOw.out ⟨W1.heap.size, 0, none⟩ 1 1 [.int .i64 (q : Int), .slice Aj L cj] rfl rfl (cell_new2 _ _ _ _) (one_2 _ _ _ _) (by unfold maxLen; omega) (by omega) (HB1.out.trans (below_le HB1.out.size HBn2.out)) (Nat.le_trans HB1.out.size HBn2.out.size) ?_); intro A5 c5 w5 ho5 hg5 hob5 hb5 hs5) | fail)
        have hj1k : min (q + 1) k = q + 1 := by omega
        have ht5 : Turned (fun b => (Value.slice Au q cu).ownBlock = some b) W1 w5 := (Turned.of_below (P := fun b => (Value.slice Au q cu).ownBlock = some b) HBn2.out).then_grown hg5.out (fun k e => .inl e)
        have hM5 : Hid (Bk w5 g 449 (metC (min (q + 1) k))) := by
          rw [hj1k]
          exact HS1.out.turned ht5 (fun e => own_notB hown1.out e HS1.out rfl (by decide))
        have hO5 : Hid (w5.ownsRow w.heap.size 408 2 (.slice A5 (q + 1) c5) (min (q + 1) k) (prtC vs (min (q + 1) k))) := by
          rw [hj1k, prtC_succ, hvj2.out]
          exact ho5.out
        exact ⟨⟨q + 1, by omega, by go_num, hO5, hM5, hb5⟩, by simp [intOf]; omega⟩
      · have eq : q = k := by omega
        have qk : ((q : Int) == (k : Int)) = true := by rw [eq]; simp
        have hj1k : min (j + 1) k = q := by omega
        have hO5 : Hid ((wr.alloc (.cells #[.int .i64 (j : Int), .slice Aj L cj] 408)).ownsRow w.heap.size 408 2 (.slice Au q cu) (min (j + 1) k) (prtC vs (min (j + 1) k))) := by
          rw [hj1k]
          exact own_turned (P := fun _ => False) hU.out (Turned.of_below hbn) (fun _ _ => id)
        have hM5 : Hid (Bk (wr.alloc (.cells #[.int .i64 (j : Int), .slice Aj L cj] 408)) g 449 (metC (min (j + 1) k))) := by
          rw [hj1k]
          exact hM.out.ext hbn
        have hB5 : Hid (Below w.heap.size w (wr.alloc (.cells #[.int .i64 (j : Int), .slice Aj L cj] 408))) := hB.out.trans (below_le hB.out.size hbn)
        clear hbn hkn hj1k eq
        go_wp2_with fail
        exact ⟨⟨j + 1, by omega, by go_num, hO5, hM5, hB5⟩, by simp [intOf]; omega⟩
    · have hj1 : j = m := by omega
      subst hj1
      have hi : ¬ (j : Int) < j := by omega
      have e : min j k = k := by omega
      rw [e] at hU
      go_wp2_with fail
      go_ret
      exact ⟨_, rfl, ⟨hU.out, fun i hi => (HP.out.ext hB.out).row i (by omega)⟩, hB.out⟩
end Go.Proofs.YtkdlofgfkfhofaaGreatDoor

/-
  A slice of one frame, built.
-/
namespace Go.Proofs.YtkdlofgfkfhofaaGreatDoor
open Go.RowKit Go.Maps

theorem fold_put : ∀ (l : List Value) (k : Nat) (cs : Array Value) (p q : List Value), cs.toList = p ++ q → p.length = k → q.length = l.length → ((l.zipIdx k).foldl (fun (cs : Array Value) (x : Value × Nat) => cs.setIfInBounds (0 + x.2) x.1) cs).toList = p ++ l
  | [], k, cs, p, q, h, hp, hq => by
    have : q = [] := List.eq_nil_of_length_eq_zero hq
    subst this
    exact h
  | a :: l, k, cs, p, [], h, hp, hq => by simp at hq
  | a :: l, k, cs, p, b :: q, h, hp, hq => by
    have h2 := fold_put l (k + 1) (cs.setIfInBounds (0 + k) a) (p ++ [a]) q (by
      rw [Array.toList_setIfInBounds, h, Nat.zero_add, ← hp]
      simp) (by simp [hp]) (by simpa using hq)
    rw [List.zipIdx_cons, List.foldl_cons, h2]
    simp
theorem fill_one (xs cs : Array Value) (h : xs.size = cs.size) : Instr.fill (fun i => some (i * xs.size, xs.size)) cs [(0, .agg xs)] = some xs := by
  have e : (Value.agg xs).cells = xs := rfl
  have h3 : (xs.zipIdx.foldl (fun (cs : Array Value) (x : Value × Nat) => cs.setIfInBounds (0 + x.2) x.1) cs) = xs := by
    rw [← Array.foldl_toList, Array.toList_zipIdx]
    exact Array.toList_inj.1 (fold_put xs.toList 0 cs [] cs.toList rfl rfl (by simp [h]))
  unfold Instr.fill
  rw [e, Nat.zero_mul]
  simp only [h, ne_eq, not_true_eq_false, decide_false, Nat.zero_add, Nat.lt_irrefl, gt_iff_lt, Bool.or_self, Bool.false_eq_true, if_false]
  unfold Instr.fill
  simpa using h3
def bsF (parts : Array (Nat × Value)) : Sem Value := Instr.buildSlice 266 1 parts
theorem bsF_eq (parts : Array (Nat × Value)) : Instr.buildSlice 266 1 parts = bsF parts := rfl
theorem bsF_run {f : Frm} (hl : f.data.length = 108) (w : World) : (bsF #[(0, .agg f.cells)]).run Tryz.prog w = .ok (.slice (some ⟨w.heap.size, 0, none⟩) 1 1) (w.alloc (.cells f.cells 273)) := by
  have hs : (sizeOf 273).run Tryz.prog w = .ok 112 w := by kernel_rfl
  have hz := zero_frm w
  have hc : f.cells.size = 112 := Frm.size hl
  have hf : Instr.fill (fun i => some (i * 112, 112)) ((Array.range (1 * 112)).map (zeroF.cells[· % zeroF.cells.size]!)) [(0, .agg f.cells)] = some f.cells := by
    have h := fill_one f.cells ((Array.range (1 * 112)).map (zeroF.cells[· % zeroF.cells.size]!)) (by simp [hc])
    rw [hc] at h
    exact h
  have e : (Value.agg zeroF.cells).cells = zeroF.cells := rfl
  unfold bsF Instr.buildSlice
  simp only [Sem.run_bind, run_underlying Tryz.underlying266, Result.andThen_ok, hs, Nat.one_mul, Sem.run_ite, hz, e]
  rw [if_neg (by decide), if_neg (by decide)]
  simp only [Sem.run_pure, Result.andThen_ok]
  rw [Nat.one_mul] at hf
  rw [hf]
  simp only [Sem.run_bind, Sem.run_pure]
  rfl
theorem info_frm : (Tryz.prog.info? 273).map (fun i => (i.zero, i.size, i.bytes)) = some (some (.agg zeroF.cells), 112, 144) := by kernel_rfl
theorem zf_size : (Value.agg zeroF.cells).cells.size = 112 := Frm.size blank_len
theorem frm_one (f : Frm) : ∀ u ∈ f.cells.toList, u.oneCell' = true := fun u hu => by
  have h := one_frm f
  rw [Array.all_eq_true_iff_forall_mem] at h
  exact h u (by simpa using hu)
theorem cells_newF (w : World) (f : Frm) : ∀ j u, f.cells.toList[j]? = some u → (w.alloc (.cells f.cells 273)).cell? ((⟨w.heap.size, 0, none⟩ : Addr).add j) = some u := fun j u hu => by
  rw [Addr.add_none, Nat.zero_add, Bk.cell (Bk.made w _ f.cells)]
  simpa using hu
def OwnF (w : World) (B : Nat) (v : Value) (L : List Frm) : Prop := w.ownsRow B 273 112 v L.length (L.flatMap fun f => f.cells.toList)
theorem flat_getM {α : Type} (f : α → List Value) (k : Nat) : ∀ (l : List α), (∀ x ∈ l, (f x).length = k) → ∀ (i j : Nat) (x : α), l[i]? = some x → j < k → (l.flatMap f)[i * k + j]? = (f x)[j]?
  | [], _, i, j, x, h, _ => by cases i <;> cases h
  | a :: l, hf, 0, j, x, h, hj => by
    cases h
    rw [List.flatMap_cons, Nat.zero_mul, Nat.zero_add, List.getElem?_append_left (by rw [hf _ (by simp)]; exact hj)]
  | a :: l, hf, i + 1, j, x, h, hj => by
    have h2 := flat_getM f k l (fun y hy => hf y (by simp [hy])) i j x h hj
    rw [List.flatMap_cons, List.getElem?_append_right (by rw [hf _ (by simp)]; have := Nat.add_one_mul i k; omega), hf _ (by simp), ← h2]
    congr 1
    have := Nat.add_one_mul i k
    omega
theorem OwnF.open_ {w : World} {B : Nat} {v : Value} {L : List Frm} (h : OwnF w B v L) (hl : ∀ f ∈ L, f.data.length = 108) : ∃ A c, v = .slice A L.length c ∧ ∀ k f, L[k]? = some f → ∃ g, A = some ⟨g, 0, none⟩ ∧ B ≤ g ∧ g < w.heap.size ∧ ∀ j, j < 112 → w.cell? ⟨g, k * 112 + j, none⟩ = f.cells[j]? := by
  rcases h.2 with ⟨h1, h2⟩ | ⟨g, cap, cur, h1, h2, h3, h4, h5, h6, h7⟩
  · refine ⟨none, 0, by rw [h1, h2], fun k f hk => ?_⟩
    have := (List.getElem?_eq_some_iff.1 hk).1
    omega
  · refine ⟨_, cap, h1, fun k f hk => ⟨g, rfl, h2, (Array.getElem?_eq_some_iff.1 h3).1, fun j hj => ?_⟩⟩
    have hkl := (List.getElem?_eq_some_iff.1 hk).1
    have hb : Bk w g 273 cur := h3
    have hm : (k + 1) * 112 ≤ L.length * 112 := Nat.mul_le_mul_right 112 hkl
    rw [Nat.add_one_mul] at hm
    rw [hb.cell (k * 112 + j)]
    have h8 := congrArg (fun x => x[k * 112 + j]?) h7
    replace h8 : (List.take (L.length * 112) cur.toList)[k * 112 + j]? = (L.flatMap fun f => f.cells.toList)[k * 112 + j]? := h8
    rw [List.getElem?_take, if_pos (by omega), flat_getM (fun f => f.cells.toList) 112 L (fun x hx => by rw [Array.length_toList, Frm.size (hl x hx)]) k j f hk hj] at h8
    rw [← Array.getElem?_toList, h8, Array.getElem?_toList]
end Go.Proofs.YtkdlofgfkfhofaaGreatDoor

/-
  Blocks: loads, stores, slices of one.
-/
namespace Go.Proofs.YtkdlofgfkfhofaaGreatDoor
open Go.RowKit Go.Maps

def ldK (v : Value) : Sem Value := Instr.loadAt 315 v
theorem ldK_eq (v : Value) : Instr.loadAt 315 v = ldK v := rfl
def stK (p v : Value) : Sem Unit := Instr.storeAt 315 p v
theorem stK_eq (p v : Value) : Instr.storeAt 315 p v = stK p v := rfl
theorem size_blk {D : List UInt8} (hD : D.length = 108) : (Tryz.prog.info? 315).map (·.size) = some (bvs D).toArray.size := by
  have h : (Tryz.prog.info? 315).map (·.size) = some 108 := by kernel_rfl
  rw [h]
  simp [bvs_len, hD]
theorem zero_blk (w : World) : (zeroValue 315).run Tryz.prog w = .ok (.agg (bvs blank).toArray) w := by kernel_rfl
def ldA8 (v : Value) : Sem Value := Instr.loadAt 271 v
theorem ldA8_eq (v : Value) : Instr.loadAt 271 v = ldA8 v := rfl
theorem size_arr : (Tryz.prog.info? 271).map (·.size) = some 108 := by kernel_rfl
theorem ldA_frm {w : World} {g : Nat} {f : Frm} (h : Bk w g 273 f.cells) (hl : f.data.length = 108) : (ldA8 (.pointer (some ⟨g, 4, none⟩))).run Tryz.prog w = .ok (.agg (bvs f.data).toArray) w :=
  run_loadAt_mid w g 4 271 (bvs f.data) _ (fun j v hv => by
    rw [Bk.cell h, ← hv]
    simp only [Frm.cells, List.getElem?_toArray]
    rw [show 4 + j = j + 4 by omega]
    rfl) Tryz.underlying271 rfl (by rw [size_arr, bvs_len, hl])
/-- a frame in a slice of them -/
theorem ldF_mid {w : World} {g o : Nat} {f : Frm} (hl : f.data.length = 108) (h : ∀ t, t < 112 → w.cell? ⟨g, o + t, none⟩ = f.cells[t]?) : (ldFr (.pointer (some ⟨g, o, none⟩))).run Tryz.prog w = .ok (.agg f.cells) w := by
  have h2 := run_loadAt_mid (P := Tryz.prog) w g o 273 f.cells.toList _ (fun j v hv => by
    have hj : j < 112 := by
      have := (List.getElem?_eq_some_iff.1 hv).1
      rw [Array.length_toList, Frm.size hl] at this
      exact this
    rw [h j hj, ← hv]
    simp) Tryz.underlying273 rfl (by have := size_of hl; simpa using this)
  exact h2
theorem bs_one {t e : TypeId} {sz : Nat} {z xs : Array Value} (ht : Tryz.prog.underlying t = some (.slice e)) (hs : ∀ w, (sizeOf e).run Tryz.prog w = .ok sz w) (hz : ∀ w, (zeroValue e).run Tryz.prog w = .ok (.agg z) w) (hx : xs.size = sz) (h0 : sz ≠ 0) (hlt : ¬ sz > 2 ^ 24) (w : World) :
    (Instr.buildSlice t 1 #[(0, .agg xs)]).run Tryz.prog w = .ok (.slice (some ⟨w.heap.size, 0, none⟩) 1 1) (w.alloc (.cells xs e)) := by
  have hf : Instr.fill (fun i => some (i * sz, sz)) ((Array.range sz).map (z[· % z.size]!)) [(0, .agg xs)] = some xs := by
    have h := fill_one xs ((Array.range sz).map (z[· % z.size]!)) (by simp [hx])
    rw [hx] at h
    exact h
  have e0 : (Value.agg z).cells = z := rfl
  unfold Instr.buildSlice
  simp only [Sem.run_bind, run_underlying ht, Result.andThen_ok, hs, Nat.one_mul, Sem.run_ite, hz, e0]
  rw [if_neg hlt, if_neg h0]
  simp only [Sem.run_pure, Result.andThen_ok]
  rw [hf]
  simp only [Sem.run_bind, Sem.run_pure]
  rfl
def bsK (parts : Array (Nat × Value)) : Sem Value := Instr.buildSlice 189 1 parts
theorem bsK_eq (parts : Array (Nat × Value)) : Instr.buildSlice 189 1 parts = bsK parts := rfl
theorem bsK_run {D : List UInt8} (hD : D.length = 108) (w : World) : (bsK #[(0, .agg (bvs D).toArray)]).run Tryz.prog w = .ok (.slice (some ⟨w.heap.size, 0, none⟩) 1 1) (w.alloc (.cells (bvs D).toArray 315)) :=
  bs_one (sz := 108) Tryz.underlying189 (fun _ => by kernel_rfl) zero_blk (by simp [bvs_len, hD]) (by decide) (by decide) w
theorem info_blk : (Tryz.prog.info? 315).map (fun i => (i.zero, i.size, i.bytes)) = some (some (.agg (bvs blank).toArray), 108, 108) := by kernel_rfl
theorem zk_size : (Value.agg (bvs blank).toArray).cells.size = 108 := by
  show (bvs blank).toArray.size = 108
  simp [bvs_len, blank_len]
theorem bvs_one (D : List UInt8) : ∀ u ∈ bvs D, u.oneCell' = true := fun u hu => by
  unfold bvs at hu
  obtain ⟨x, _, rfl⟩ := List.mem_map.1 hu
  rfl
theorem cells_newK (w : World) (D : List UInt8) : ∀ j u, (bvs D)[j]? = some u → (w.alloc (.cells (bvs D).toArray 315)).cell? ((⟨w.heap.size, 0, none⟩ : Addr).add j) = some u := fun j u hu => by
  rw [Addr.add_none, Nat.zero_add, Bk.cell (Bk.made w _ (bvs D).toArray)]
  simpa using hu
end Go.Proofs.YtkdlofgfkfhofaaGreatDoor

/-
  A frame of five parts, built.
-/
namespace Go.Proofs.YtkdlofgfkfhofaaGreatDoor
open Go.RowKit CrcMath

theorem fold_zip (l : List Value) : ∀ (j off : Nat) (base : Array Value), off + j + l.length ≤ base.size →
    ((l.zipIdx j).foldl (fun (cs : Array Value) (p : Value × Nat) => cs.setIfInBounds (off + p.2) p.1) base).toList = base.toList.take (off + j) ++ (l ++ base.toList.drop (off + j + l.length)) := by
  induction l with
  | nil => intro j off base _; simp
  | cons c l ih =>
    intro j off base h
    rw [List.zipIdx_cons, List.foldl_cons, ih (j + 1) off _ (by simp at h ⊢; omega)]
    have hk : off + j < base.toList.length := by simp at h ⊢; omega
    rw [Array.toList_setIfInBounds]
    have e1 : (base.toList.set (off + j) c).take (off + (j + 1)) = base.toList.take (off + j) ++ [c] := by
      rw [show off + (j + 1) = off + j + 1 by omega, List.take_succ_eq_append_getElem (by simpa using hk), List.take_set_of_le (Nat.le_refl _)]
      simp
    have e2 : (base.toList.set (off + j) c).drop (off + (j + 1) + l.length) = base.toList.drop (off + j + (c :: l).length) := by
      rw [List.drop_set_of_lt (by omega)]
      congr 1
      simp
      omega
    rw [e1, e2]
    simp
theorem built_frm (parts : List (Nat × Value)) : Tryz.prog.built 273 parts = Instr.fill ((#[(0, 1), (1, 1), (2, 1), (3, 1), (4, 108)] : Array (Nat × Nat))[·]?) zeroF.cells parts := by kernel_rfl
theorem fill_four (a b c d : Int) (X : Value) : Instr.fill ((#[(0, 1), (1, 1), (2, 1), (3, 1), (4, 108)] : Array (Nat × Nat))[·]?) zeroF.cells [(0, .int .i64 a), (1, .int .i64 b), (2, .int .i64 c), (3, .int .i64 d), (4, X)] =
    Instr.fill ((#[(0, 1), (1, 1), (2, 1), (3, 1), (4, 108)] : Array (Nat × Nat))[·]?) (Frm.cells ⟨a, b, c, d, blank⟩) [(4, X)] := by kernel_rfl
theorem bdF_five (a b c d : Int) (D : List UInt8) (hD : D.length = 108) (w : World) :
    (bdF #[(0, .int .i64 a), (1, .int .i64 b), (2, .int .i64 c), (3, .int .i64 d), (4, .agg (bvs D).toArray)]).run Tryz.prog w = .ok (.agg (Frm.cells ⟨a, b, c, d, D⟩)) w := by
  unfold bdF
  refine run_build w _ _ _ ?_
  rw [built_frm]
  show Instr.fill _ zeroF.cells [(0, .int .i64 a), (1, .int .i64 b), (2, .int .i64 c), (3, .int .i64 d), (4, .agg (bvs D).toArray)] = _
  rw [fill_four]
  have hb : (bvs D).length = 108 := by rw [bvs_len, hD]
  have hs : (Frm.cells ⟨a, b, c, d, blank⟩).size = 112 := Frm.size blank_len
  have hp : ((#[(0, 1), (1, 1), (2, 1), (3, 1), (4, 108)] : Array (Nat × Nat))[4]?) = some (4, 108) := rfl
  have hv : (Value.agg (bvs D).toArray).cells = (bvs D).toArray := rfl
  unfold Instr.fill
  simp only [hp, hv, List.size_toArray, hb, hs]
  rw [if_neg (by simp)]
  unfold Instr.fill
  congr 1
  apply Array.ext'
  have hf := fold_zip (bvs D) 0 4 (Frm.cells ⟨a, b, c, d, blank⟩) (by rw [hb, hs]; omega)
  have hzi : (bvs D).toArray.zipIdx = ((bvs D).zipIdx).toArray := by
    apply Array.ext'
    simp
  rw [hzi, List.foldl_toArray']
  refine Eq.trans hf ?_
  rw [hb]
  have h1 : (Frm.cells ⟨a, b, c, d, blank⟩).toList = .int .i64 a :: .int .i64 b :: .int .i64 c :: .int .i64 d :: bvs blank := rfl
  have h2 : (Frm.cells ⟨a, b, c, d, D⟩).toList = .int .i64 a :: .int .i64 b :: .int .i64 c :: .int .i64 d :: bvs D := rfl
  rw [h1, h2, List.drop_of_length_le (by simp [bvs, blank])]
  · simp
  · rfl
end Go.Proofs.YtkdlofgfkfhofaaGreatDoor
