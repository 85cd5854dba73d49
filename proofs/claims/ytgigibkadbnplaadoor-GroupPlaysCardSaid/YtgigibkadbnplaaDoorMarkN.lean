/-
  The document's marks: Set, where the mark is new.
-/
import Derived.Test.YtgigibkadbnplaaDoorMarkH
import Derived.Deep.RegionLaw
import Derived.Deep.CutRange
namespace Go.Proofs.YtgigibkadbnplaaDoor
open Go.RowKit
attribute [local go_sem ↓] ldM_eq

theorem flat_at (l : List Mk) (j : Nat) (u : Value) (h : (l.flatMap Mk.cells)[j]? = some u) : ∃ m, l[j / 4]? = some m ∧ m.cells[j % 4]? = some u := by
  have hj := (List.getElem?_eq_some_iff.1 h).1
  rw [flat_len] at hj
  have hk : j / 4 < l.length := by omega
  have h4 : (l[j / 4]).cells.length = 4 := rfl
  have h5 : j % 4 < (l[j / 4]).cells.length := by omega
  refine ⟨l[j / 4], List.getElem?_eq_getElem hk, ?_⟩
  have := flat_mk l (j / 4) (j % 4) _ _ (List.getElem?_eq_getElem hk) (List.getElem?_eq_getElem h5)
  rw [show j / 4 * 4 + j % 4 = j by omega, h] at this
  rw [List.getElem?_eq_getElem h5]
  exact this.symm
set_option maxRecDepth 100000 in
theorem run_append_M (w : World) (B : Nat) (ty : TypeId) (A : Option Addr) (n c : Nat) (l : List Mk) (hown : OwnM w B A n c l) (A2 : Option Addr) (m c2 : Nat) (l2 : List Mk) (hr : RdM w A2 m c2 l2) (hsmall : n + m ≤ 10000) (hB : B ≤ w.heap.size) :
    ∃ A' c' w', (Builtin.append_ #[39, 39] ty #[.slice A n c, .slice A2 m c2]).run Tryd.prog w = .ok (.slice A' (n + m) c') w' ∧ OwnM w' B A' (n + m) c' (l ++ l2) ∧ w.grownBy w' (Value.slice A n c).ownBlock := by
  obtain ⟨ii, hi0, hz0, hs0, hb0⟩ := info_parts info_m
  have hlen := hr.len
  rcases A2 with _ | ad
  · have hm : m = 0 := by
      rcases Nat.eq_zero_or_pos m with h0 | h0
      · exact h0
      · obtain ⟨g, h, _⟩ := hr.cell 0 _ (List.getElem?_eq_getElem (by omega)); cases h
    subst hm
    obtain rfl : l2 = [] := List.eq_nil_of_length_eq_zero hlen
    refine ⟨A, c, w, ?_, by rw [Nat.add_zero, List.append_nil]; exact hown, ⟨rfl, rfl, rfl, Nat.le_refl _, fun _ _ _ => rfl⟩⟩
    rcases hown.2 with ⟨hv, h0⟩ | ⟨g, cap, cur, hv, _, _, hnc, _⟩
    · injection hv with e1 e2 e3
      subst e1 e3 h0
      simp [Builtin.append_, run_underlying Tryd.underlying39, sizeOf, typeInfo, hi0, Builtin.lenOf, Builtin.firstCells]
    · injection hv with e1 e2 e3
      subst e1 e3
      simp [Builtin.append_, run_underlying Tryd.underlying39, sizeOf, typeInfo, hi0, Builtin.lenOf, Builtin.firstCells, hnc, storeCells]
  · have hcells : ∀ j u, (l2.flatMap Mk.cells)[j]? = some u → w.cell? (ad.add j) = some u := fun j u hu => by
      obtain ⟨mk, h1, h2⟩ := flat_at l2 j u hu
      obtain ⟨g, e, _, hc⟩ := hr.cell _ _ h1
      injection e with e
      subst e
      have := hc _ _ h2
      rw [show j / 4 * 4 + j % 4 = j by omega] at this
      rw [Addr.add_none, Nat.zero_add]
      exact this
    obtain ⟨v', w', hrun, h2, h3, _, h5⟩ := run_append_own_at (P := Tryd.prog) w B 39 ty 66 ii _ 4 48 Tryd.underlying39 hi0 hz0 hs0 hb0 rfl (by omega) _ n (l.flatMap Mk.cells) hown ad m c2 (l2.flatMap Mk.cells)
      (by rw [flat_len, hlen]) hcells (fun u hu => by obtain ⟨mk, _, h2⟩ := List.mem_flatMap.1 hu; exact one_m mk u h2) (by unfold maxLen; omega) (by omega) hB
    obtain ⟨A', c', rfl⟩ : ∃ A' c', v' = .slice A' (n + m) c' := by
      rcases h2.2 with ⟨rfl, h0⟩ | ⟨g, cap, cur, rfl, _⟩
      · exact ⟨none, 0, by rw [h0]⟩
      · exact ⟨_, _, rfl⟩
    refine ⟨A', c', w', hrun, ?_, h3⟩
    unfold OwnM
    rw [List.flatMap_append]
    exact h2
theorem step_append_M {ops : Array Oper} {o : Oper} {a : Act} {w : World} {K : Act → World → Prop} {Q : Exit → Act → World → Prop} {E : Prop} (hgd : o.guard = none) (s x : Operand)
    (ho : o.op = .call { callee := .builtin .append, args := #[s, x], argTypes := #[39, 39] }) (B : Nat) (w0 : World)
    (A : Option Addr) (n c : Nat) (l : List Mk) (hs : a.eval s = .slice A n c) (hown : OwnM w B A n c l)
    (A2 : Option Addr) (m c2 : Nat) (l2 : List Mk) (hx : a.eval x = .slice A2 m c2) (hr : RdM w A2 m c2 l2) (hsmall : n + m ≤ 10000) (hb : Below B w0 w) (hB : B ≤ w.heap.size) (N : Nat) (hN : N = n + m)
    (h : ∀ A' c' w', Hid (OwnM w' B A' N c' (l ++ l2)) → Hid (w.grownBy w' (Value.slice A n c).ownBlock) → Below B w0 w' → Hid (B ≤ w'.heap.size) → K (a.put o.dst (.slice A' N c')) w') :
    if Region.wanted o (yielded ops a.tmps) = true then Oper.wp Tryd.prog o a w K Q else E := by
  have hw : Region.wanted o (yielded ops a.tmps) = true := by simp [Region.wanted, hgd]
  rw [if_pos hw]
  subst hN
  obtain ⟨A', c', w', hrun, h2, h3⟩ := run_append_M w B o.type A n c l hown A2 m c2 l2 hr hsmall hB
  unfold Oper.wp execOp
  simp only [ho, resolve, invoke, builtin, Sem.run_bind, Sem.run_pure, Result.andThen_ok, List.map_toArray, List.map_cons, List.map_nil, hs, hx, hrun]
  exact h A' c' w' h2 h3 (hb.grown h3 hB fun k hk => (World.ownsRow.lt hown k hk).1) (Nat.le_trans hB h3.size)
theorem rdm_one {w : World} {g : Nat} {m : Mk} (h : Bk w g 66 m.cells.toArray) : RdM w (some ⟨g, 0, none⟩) 1 1 [m] :=
  ⟨rfl, Nat.le_refl _, by omega, fun k x hk => by
    cases k with
    | zero =>
      simp at hk
      subst hk
      exact ⟨g, rfl, h.lt, fun j u hu => by rw [Bk.cell h, ← hu]; simp⟩
    | succ k => simp at hk⟩
set_option maxRecDepth 100000 in
set_option maxHeartbeats 4000000 in
theorem refSet_new (B rg : Nat) (A : Option Addr) (c : Nat) (l : List Mk) (a t : ByteArray) (p o : Int) (w : World) (h : RefG w B rg A c l) (hBw : B ≤ w.heap.size) (ha : nameOk a = true) (ht : nameOk t = true) (hp : 0 ≤ p) (hp' : p < 4) (ho : 0 ≤ o)
    (hf : findM l a t p = none) (hl : l.length < 32) :
    Calls Tryd.prog 19 #[.pointer (some ⟨rg, 0, none⟩), .string a, .string t, .int .i64 p, .int .i64 o] w fun e w' => e = .returned (.int .i64 0) ∧ (∃ A' c', RefG w' B rg A' c' (l ++ [⟨a, t, p, o⟩])) ∧ w.grownBy w' (some rg) := by
  have hN1 := Lib.hid (refName_at a w true (by have := nameOk_le ha; omega) ha)
  have hN2 := Lib.hid (refName_at t w true (by have := nameOk_le ht; omega) ht)
  have hb := below_new w (.cells #[.string a, .string t, .int .i64 p, .int .i64 o] 66)
  have h1 := h.ext hb
  have hF := find_any rg A l.length c l a t p _ h1.cell h1.own.reads
  rw [show findI l a t p = -1 by unfold findI; rw [hf]] at hF
  have hl32 : (l.length : Int) < 32 := by omega
  have hrl := h.bk.lt
  have HF := Lib.hid hF
  have H1 := Lib.hid h1
  have HC1 := Lib.hid (Bk.made w 66 (Mk.cells ⟨a, t, p, o⟩).toArray)
  clear hF h1 h ha ht hf
  go_enter Tryd.func19, Tryd.ntmps19
  go_upto_region 12 with (first | (go_at_call 17; (with_reducible refine hN1.out.mono ?_); rintro e w1 ⟨rfl, rfl⟩; clear hN1) | (go_at_call 17; (with_reducible refine hN2.out.mono ?_); rintro e w2 ⟨rfl, rfl⟩; clear hN2) | (go_at_call 29; (with_reducible refine HF.out.mono ?_); rintro e w3 ⟨rfl, hb3⟩; have hc3 := (H1.out.ext hb3).cell) | fail)
  have hs3 : w2.heap.size < w3.heap.size := by have := hb3.size; simp at this; omega
  have HR := Lib.hid (H1.out.ext hb3)
  have hbw3 := hb.trans (below_le (by simp) hb3)
  have HB := Lib.hid hbw3
  have HM := Lib.hid (HC1.out.ext hb3)
  clear hb3 hbw3 hb H1 HC1 HF
  have r0 : Below w3.heap.size w3 w3 := Below.refl _ _
  have b0 : Below w3.heap.size w3 w3.drew := below_drew1 r0
  have b1 : Below w3.heap.size w3 (w3.alloc (.cells #[] 66)).drew := below_drew1 (r0.alloc r0.size _)
  have b4 : Below w3.heap.size w3 (w3.alloc (.cells #[.string a, .string t, .int .i64 p, .int .i64 o] 66)).drew := below_drew1 (r0.alloc r0.size _)
  have b2 : Below w3.heap.size w3 ((w3.alloc (.cells #[] 66)).alloc (.cells #[.string a, .string t, .int .i64 p, .int .i64 o] 66)).drew := below_drew1 ((r0.alloc r0.size _).alloc (by simp) _)
  have b3 : Below w3.heap.size w3 ((w3.alloc (.cells #[.string a, .string t, .int .i64 p, .int .i64 o] 66)).alloc (.cells #[] 66)).drew := below_drew1 ((r0.alloc r0.size _).alloc (by simp) _)
  have m2 : Bk ((w3.alloc (.cells #[] 66)).alloc (.cells #[.string a, .string t, .int .i64 p, .int .i64 o] 66)).drew (w3.heap.size + 1) 66 (Mk.cells ⟨a, t, p, o⟩).toArray := by
    have := Bk.made (w3.alloc (.cells #[] 66)) 66 (Mk.cells ⟨a, t, p, o⟩).toArray
    rw [show (w3.alloc (.cells #[] 66)).heap.size = w3.heap.size + 1 by simp] at this
    exact this
  have m3 : Bk ((w3.alloc (.cells #[.string a, .string t, .int .i64 p, .int .i64 o] 66)).alloc (.cells #[] 66)).drew w3.heap.size 66 (Mk.cells ⟨a, t, p, o⟩).toArray := (Bk.made w3 66 (Mk.cells ⟨a, t, p, o⟩).toArray).alloc _
  have o1 : OwnM (w3.alloc (.cells #[] 66)).drew w3.heap.size (some ⟨w3.heap.size, 0, none⟩) 0 0 [] := World.ownsRow_made w3 #[] 0 (Nat.le_refl _) (by unfold maxLen; omega) rfl
  have o2 : OwnM ((w3.alloc (.cells #[] 66)).alloc (.cells #[.string a, .string t, .int .i64 p, .int .i64 o] 66)).drew w3.heap.size (some ⟨w3.heap.size, 0, none⟩) 0 0 [] := World.ownsRow.alloc (World.ownsRow_made w3 #[] 0 (Nat.le_refl _) (by unfold maxLen; omega) rfl) _
  have o3 : OwnM ((w3.alloc (.cells #[.string a, .string t, .int .i64 p, .int .i64 o] 66)).alloc (.cells #[] 66)).drew w3.heap.size (some ⟨w3.heap.size + 1, 0, none⟩) 0 0 [] := by
    have := World.ownsRow_made (base := w3.heap.size) (e := 66) (size := 4) (w3.alloc (.cells #[.string a, .string t, .int .i64 p, .int .i64 o] 66)) #[] 0 (by simp) (by unfold maxLen; omega) rfl
    rw [show (w3.alloc (.cells #[.string a, .string t, .int .i64 p, .int .i64 o] 66)).heap.size = w3.heap.size + 1 by simp] at this
    exact this
  have HM2 := Lib.hid m2
  have HM3 := Lib.hid m3
  have HO1 := Lib.hid o1
  have HO2 := Lib.hid o2
  have HO3 := Lib.hid o3
  clear m2 m3 o1 o2 o3
  have FS : Hid (∀ w', w3.grownBy w' (some rg) → (w3.grownBy w' (some rg) ∧ (ldM (.pointer (some ⟨w2.heap.size, 0, none⟩))).run Tryd.prog w' = .ok (.agg #[.string a, .string t, .int .i64 p, .int .i64 o]) w')) := fun w' hg =>
    ⟨hg, ldM_at (m := ⟨a, t, p, o⟩) fun j u hu => by rw [(HM.out.grown hg (by simp; omega)).cell, ← hu]; simp⟩
  have d0 := (HR.out.ext b0).cell
  have d1 := (HR.out.ext b1).cell
  have d2 := (HR.out.ext b2).cell
  have d3 := (HR.out.ext b3).cell
  have d4 := (HR.out.ext b4).cell
  have HB0 := Lib.hid b0
  have HB1 := Lib.hid b1
  have HB2 := Lib.hid b2
  have HB3 := Lib.hid b3
  have HB4 := Lib.hid b4
  clear b0 b1 b2 b3 b4 r0
  have e0 := (FS.out _ ((grown_of_below HB0.out).but _)).2
  have e1 := (FS.out _ ((grown_of_below HB1.out).but _)).2
  go_region_law (first | ((refine step_append_M (by rfl) (.tmp 67) (.tmp 71) (by rfl) w3.heap.size w3 _ _ _ [] (by rfl) (by first | exact HO1.out | exact HO2.out | exact HO3.out) _ l.length _ l (by rfl) (HR.out.own.reads.ext (by first | exact HB1.out | exact HB2.out | exact HB3.out)) (by omega) (by first | exact HB1.out | exact HB2.out | exact HB3.out) (by first | exact HB1.out.size | exact HB2.out.size | exact HB3.out.size) l.length (Nat.zero_add _).symm ?_; intro A5 c5 w5 ho5 hg5 hB5 hs5; have e5 := (FS.out _ ((grown_of_below hB5).but _)).2)) | ((refine step_append_M (by rfl) (.tmp 72) (.tmp 74) (by rfl) w3.heap.size w3 A5 l.length c5 _ (by rfl) (by first | exact World.ownsRow.alloc ho5.out _ | exact ho5.out) _ 1 1 [⟨a, t, p, o⟩] (by rfl) (by first | exact rdm_one (Bk.made w5 _ (Mk.cells ⟨a, t, p, o⟩).toArray) | exact rdm_one (HM2.out.grown hg5.out (by simp [Value.ownBlock])) | exact rdm_one (HM3.out.grown hg5.out (by simp [Value.ownBlock]))) (by omega) (by first | exact hB5.alloc hs5.out _ | exact hB5) (by first | exact hs5.out | exact (hB5.alloc hs5.out _).size) (l.length + 1) rfl ?_; intro A6 c6 w6 ho6 hg6 hB6 hs6; have hk6 := HR.out.ext hB6; have hc6 := hk6.cell; have hf6 := hk6.bk.thaw 0)))
  all_goals
    go_wp2_with fail
    go_ret
    have hb6 : Below w2.heap.size w2 w6 := HB.out.trans (below_le (Nat.le_of_lt hs3) hB6)
    have ho := ho6.out
    rw [List.nil_append] at ho
    obtain ⟨r1, r2⟩ := RefG.stored hrl hBw hb6 hk6.bk (ho.more (Nat.le_of_lt hs3))
    exact ⟨rfl, ⟨_, _, r1⟩, r2⟩
end Go.Proofs.YtgigibkadbnplaaDoor
