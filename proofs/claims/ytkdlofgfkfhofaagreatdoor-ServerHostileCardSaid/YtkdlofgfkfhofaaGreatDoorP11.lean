import Derived.Test.YtkdlofgfkfhofaaGreatDoorP10
import Derived.Deep.RegionHeld3
/-
  code: New.
-/
namespace Go.Proofs.YtkdlofgfkfhofaaGreatDoor
open Go.RowKit Go.Maps

/-- a byte of a fragment's row -/
def cellC (k at_ j : Nat) : UInt8 := if k ≤ at_ then invG (UInt8.ofNat (at_ ^^^ j)) else if at_ = j then 1 else 0
def rowC (k at_ : Nat) : List UInt8 := (List.range k).map (cellC k at_)
/-- the first j bytes done -/
def partC (k at_ j : Nat) : List UInt8 := (List.range k).map fun i => if i < j then cellC k at_ i else 0
theorem partC_len (k at_ j : Nat) : (partC k at_ j).length = k := by simp [partC]
theorem partC_get (k at_ j i : Nat) : (partC k at_ j)[i]? = if i < k then some (if i < j then cellC k at_ i else 0) else none := by
  unfold partC
  rw [List.getElem?_map]
  by_cases h : i < k
  · rw [List.getElem?_range h, if_pos h]
    rfl
  · rw [List.getElem?_eq_none (by simp; omega), if_neg h]
    rfl
theorem partC_zero (k at_ : Nat) : partC k at_ 0 = List.replicate k 0 := by
  apply List.ext_getElem?
  intro i
  rw [partC_get, List.getElem?_replicate]
  by_cases h : i < k
  · rw [if_pos h, if_pos h, if_neg (by omega)]
  · rw [if_neg h, if_neg h]
theorem partC_full (k at_ : Nat) : partC k at_ k = rowC k at_ := by
  unfold partC rowC
  refine List.map_congr_left fun i hi => ?_
  rw [if_pos (List.mem_range.1 hi)]
theorem partC_set (k at_ j : Nat) : (partC k at_ j).set j (cellC k at_ j) = partC k at_ (j + 1) := by
  apply List.ext_getElem?
  intro i
  rw [List.getElem?_set, partC_len, partC_get, partC_get]
  by_cases e : j = i
  · subst e
    rw [if_pos rfl]
    by_cases h : j < k
    · rw [if_pos h, if_pos h, if_pos (by omega)]
    · rw [if_neg h, if_neg h]
  · rw [if_neg e]
    by_cases h : i < k
    · rw [if_pos h, if_pos h]
      by_cases h2 : i < j
      · rw [if_pos h2, if_pos (by omega)]
      · rw [if_neg h2, if_neg (by omega)]
    · rw [if_neg h, if_neg h]
theorem partC_skip {k at_ j : Nat} (h0 : cellC k at_ j = 0) : partC k at_ (j + 1) = partC k at_ j := by
  apply List.ext_getElem?
  intro i
  rw [partC_get, partC_get]
  by_cases h : i < k
  · rw [if_pos h, if_pos h]
    by_cases e : i = j
    · subst e
      rw [if_pos (by omega), if_neg (by omega), h0]
    · by_cases h2 : i < j
      · rw [if_pos h2, if_pos (by omega)]
      · rw [if_neg h2, if_neg (by omega)]
  · rw [if_neg h, if_neg h]
theorem xor_small : ∀ a b : Fin 8, bits .xor .i64 ((a.val : Nat) : Int) ((b.val : Nat) : Int) = ((a.val ^^^ b.val : Nat) : Int) ∧ a.val ^^^ b.val < 8 := by decide +kernel
/-- the Code behind block c -/
structure CodeP (w : World) (B c f k : Nat) (v : Value) (vs : Nat → Value) (Ls : List (List UInt8)) : Prop where
  bk : Bk w c 388 #[.int .i64 (k : Int), .pointer (some ⟨f, 0, none⟩), v]
  fld : FieldAt w f
  rows : RowsAt w B v vs Ls
  low : B ≤ c
theorem CodeP.ext {w w' : World} {B c f k : Nat} {v : Value} {vs : Nat → Value} {Ls : List (List UInt8)} (h : CodeP w B c f k v vs Ls) (hb : Below w.heap.size w w') : CodeP w' B c f k v vs Ls := ⟨h.bk.ext hb, Bk.ext h.fld hb, h.rows.ext hb, h.low⟩
theorem owns_bb {w : World} {g n : Nat} {l : List UInt8} (h : Bb w g 5 l) (hn : l.length = n) (hb : n ≤ 9223372036854775807) : OwnAt w g n l :=
  ⟨by omega, hb, _, h, by rw [List.size_toArray, bvs_len, hn], by rw [List.take_of_length_le (by rw [bvs_len]; exact Nat.le_refl _)]⟩
/-- a row is laid behind the others -/
theorem CodeP.step {w wn w5 : World} {B c f k n : Nat} {v v5 u : Value} {vs : Nat → Value} {Ls : List (List UInt8)} {l : List UInt8} (h : CodeP w B c f k v vs Ls) (hn : Ls.length = n) (hbn : Below w.heap.size w wn) (hg : wn.grownBy w5 v.ownBlock)
    (ho : w5.ownsRow B 26 1 v5 (n + 1) ((List.range n).map vs ++ [u])) (hu : OwnB w B u l) :
    w5.cell? ⟨c, 2, none⟩ = some v ∧ w5.frozen? ⟨c, 2, none⟩ = false ∧ CodeP (w5.setCell ⟨c, 2, none⟩ v5) B c f k v5 (snocV vs n u) (Ls ++ [l]) := by
  obtain ⟨h1, ht⟩ := h.rows.app hn hbn hg ho hu
  have hk5 : Bk w5 c 388 _ := h.bk.turned ht (fun e => h.rows.notT e h.bk (by decide))
  have hf5 : FieldAt w5 f := Bk.turned h.fld ht (fun e => h.rows.notT e h.fld (by decide))
  refine ⟨hk5.cell 2, hk5.thaw 2, ⟨hk5.put 2 v5, ?_, h1.setFar hk5 (by decide) (by decide), h.low⟩⟩
  refine Bk.far hf5 (p := ⟨c, 2, none⟩) (fun e => ?_) v5
  have e : f = c := e
  have a1 := h.bk
  have a2 : Bk w f 434 _ := h.fld
  rw [e] at a2
  unfold Bk at a1 a2
  rw [a1] at a2
  injection a2 with a2
  injection a2 with _ a3
  exact absurd a3 (by decide)
def CodeAt (w : World) (c : Nat) (k n : Nat) : Prop := ∃ B f v vs, CodeP w B c f k v vs ((List.range n).map (rowC k))
theorem CodeAt.ext {w w' : World} {c k n : Nat} (h : CodeAt w c k n) (hb : Below w.heap.size w w') : CodeAt w' c k n := by
  obtain ⟨B, f, v, vs, h⟩ := h
  exact ⟨B, f, v, vs, h.ext hb⟩
set_option maxRecDepth 100000 in
set_option maxHeartbeats 4000000 in
theorem codeNew_any (k n : Nat) (hk : 1 ≤ k) (hn : k ≤ n) (h8 : n ≤ 8) (w : World) : Calls Tryz.prog 189 #[.int .i64 (k : Int), .int .i64 (n : Int)] w fun e w' => ∃ c, e = .returned (.tuple #[.pointer (some ⟨c, 0, none⟩), .nilIface]) ∧ CodeAt w' c k n ∧ Below w.heap.size w w' := by
  have q1 : ¬ (k : Int) < 1 := by omega
  have q2 : ¬ (n : Int) < (k : Int) := by omega
  have q3 : ¬ (8 : Int) < (n : Int) := by omega
  have q4 : ¬ n < k := by omega
  obtain ⟨ii, hi0, hz0, hs0, hy0⟩ := info_parts info_bs
  have HI := Lib.hid hi0
  have HZ := Lib.hid hz0
  have HSz := Lib.hid hs0
  have HY := Lib.hid hy0
  have hmk := mk_bytes k k rfl (by omega)
  clear hi0 hz0 hs0 hy0
  go_enter Tryz.func189, Tryz.ntmps189
  go_wp2_with (first | (go_at_call 235; (with_reducible refine (gfMake_any _).mono ?_); rintro er w1 ⟨rfl, hf1, hb1⟩; have HF1 := Lib.hid hf1; have HB1 := Lib.hid hb1; clear hf1 hb1) | fail)
  have hbc := below_new w1 (.cells #[.int .i64 (k : Int), .pointer (some ⟨w.heap.size, 0, none⟩), .slice none 0 0] 388)
  have HC0 : Hid (CodeP (w1.alloc (.cells #[.int .i64 (k : Int), .pointer (some ⟨w.heap.size, 0, none⟩), .slice none 0 0] 388)) w.heap.size w1.heap.size w.heap.size k (.slice none 0 0) (fun _ => .slice none 0 0) ((List.range 0).map (rowC k))) := ⟨Bk.made _ _ _, Bk.ext HF1.out hbc, RowsAt.nil _ _ _, HB1.out.size⟩
  have HB2 := Lib.hid (HB1.out.trans (below_le HB1.out.size hbc))
  generalize w1.heap.size = c at HC0 ⊢
  generalize w1.alloc (.cells #[.int .i64 (k : Int), .pointer (some ⟨w.heap.size, 0, none⟩), .slice none 0 0] 388) = W0 at HC0 HB2 ⊢
  clear hbc HB1 HF1
  go_loopw [28] (fun i wr => ∃ (a : Nat) (v : Value) (vs : Nat → Value), a ≤ n ∧ i = .int .i64 a ∧ Hid (CodeP wr w.heap.size c w.heap.size k v vs ((List.range a).map (rowC k))) ∧ Hid (Below w.heap.size w wr)) (fun i _ => n - (intOf i).toNat)
  case atStart => exact ⟨0, _, _, Nat.zero_le _, rfl, HC0, HB2⟩
  case round =>
    obtain ⟨a, v, vs, ha, rfl, hC, hB⟩ := hrel
    clear HC0 HB2
    by_cases hlt : a < n
    · have hi : (a : Int) < n := by omega
      obtain ⟨wo, rfl⟩ : ∃ wo, wo = wr := ⟨_, rfl⟩
      go_wp2_with fail
      have H0 : Hid (Bb (wo.alloc (zeroBytes k)) wo.heap.size 5 (partC k a 0)) := by
        rw [partC_zero]
        exact Bb.made wo k
      have HB0 := Lib.hid (below_new wo (zeroBytes k))
      generalize wo.alloc (zeroBytes k) = W1 at H0 HB0 ⊢
      obtain ⟨g, hg⟩ : ∃ g, g = wo.heap.size := ⟨_, rfl⟩
      rw [← hg] at H0 ⊢
      have HGr := Lib.hid hg
      clear hg
      go_loopw [35] (fun j w' => ∃ b : Nat, b ≤ k ∧ j = .int .i64 b ∧ Hid (Bb w' g 5 (partC k a b)) ∧ Hid (Below wo.heap.size wo w')) (fun j _ => k - (intOf j).toNat)
      case atStart => exact ⟨0, Nat.zero_le _, rfl, H0, HB0⟩
      case round =>
        obtain ⟨b, hb, rfl, hR, hBo⟩ := hrel
        clear H0 HB0
        by_cases hlb : b < k
        · have hib : (b : Int) < k := by omega
          have hCr := hC.out.ext hBo.out
          have c1 : wr.cell? ⟨c, 1, none⟩ = some (.pointer (some ⟨w.heap.size, 0, none⟩)) := hCr.bk.cell 1
          obtain ⟨y, hy, c2⟩ := hR.out.get (i := b) (by rw [partC_len]; exact hlb)
          have f2 := hR.out.thaw b
          have HFl := Lib.hid hCr.fld
          have hst : ∀ (q : Nat) (x : UInt8), x = cellC k a b → Hid (Bb ((wr.drewN q).setCell ⟨g, b, none⟩ (.int .u8 (w8 x))) g 5 (partC k a (b + 1))) := fun q x e => by
            have h := (hR.out.drawn q).put b x
            rw [e, partC_set] at h
            rw [e]
            exact h
          have hsb : ∀ (q : Nat) (x : Value), Hid (Below wo.heap.size wo ((wr.drewN q).setCell ⟨g, b, none⟩ x)) := fun q x => below_grown (below_drawn hBo.out q) (below_drawn hBo.out q).size (grown_set (wr.drewN q) ⟨g, b, none⟩ x) (by rw [← HGr.out]; exact Nat.le_refl _)
          have HSt := Lib.hid hst
          have HSb := Lib.hid hsb
          have c2q : ∀ q, (wr.drewN q).cell? ⟨g, b, none⟩ = some (.int .u8 (w8 y)) := fun _ => c2
          have f2q : ∀ q, (wr.drewN q).frozen? ⟨g, b, none⟩ = false := fun _ => f2
          clear hCr hst hsb hy
          by_cases hak : k ≤ a
          · have hq : (k : Int) ≤ a := by omega
            obtain ⟨x1, x2⟩ := xor_small ⟨a, by omega⟩ ⟨b, by omega⟩
            dsimp only at x1 x2
            have hI := inv_any HFl.out (UInt8.ofNat (a ^^^ b))
            rw [w8_of _ (by omega)] at hI
            have hce : invG (UInt8.ofNat (a ^^^ b)) = cellC k a b := by
              unfold cellC
              rw [if_pos hak]
            rw [hce] at hI
            have HInv := Lib.hid hI
            clear hI hce
            go_wp2_with (first | (go_at_call 236; (with_reducible refine HInv.out.mono ?_); rintro er w4 ⟨rfl, q, rfl⟩) | fail)
            exact ⟨⟨b + 1, by omega, by go_num, HSt.out _ _ rfl, HSb.out _ _⟩, by simp [intOf]; omega⟩
          · have hq : ¬ (k : Int) ≤ a := by omega
            have hq2 : decide ((k : Int) ≤ a) = false := decide_eq_false hq
            by_cases hab : a = b
            · have hce : (1 : UInt8) = cellC k a b := by
                unfold cellC
                rw [if_neg hak, if_pos hab]
              have h1 := HSt.out 0 1 hce
              have h2 := HSb.out 0 (.int .u8 (w8 1))
              have hw1 : w8 1 = 1 := rfl
              rw [hw1] at h1 h2
              subst hab
              go_wp2_with fail
              exact ⟨⟨a + 1, by omega, by go_num, h1, h2⟩, by simp [intOf]; omega⟩
            · have hab2 : ((a : Int) == (b : Int)) = false := by
                rw [beq_eq_false_iff_ne]
                omega
              have hce : cellC k a b = 0 := by
                unfold cellC
                rw [if_neg hak, if_neg hab]
              have h1 : Hid (Bb wr g 5 (partC k a (b + 1))) := by
                rw [partC_skip hce]
                exact hR
              clear hce
              go_wp2_with fail
              exact ⟨⟨b + 1, by omega, by go_num, h1, hBo⟩, by simp [intOf]; omega⟩
        · have hb1 : b = k := by omega
          subst hb1
          have hib : ¬ (b : Int) < b := by omega
          have hCr := hC.out.ext hBo.out
          have hrw := hCr.rows
          obtain ⟨A, cc, hv, _⟩ := hrw.open_
          have hla : ((List.range a).map (rowC b)).length = a := by simp
          rw [hla] at hv
          subst hv
          have c0 : wr.cell? ⟨c, 2, none⟩ = some (.slice A a cc) := hCr.bk.cell 2
          have hbn := below_new wr (.cells #[.slice (some ⟨g, 0, none⟩) b b] 26)
          have HBn := Lib.hid hbn
          have HOw := Lib.hid (own_turned (P := fun _ => False) hrw.own (Turned.of_below hbn) (fun _ _ => id))
          rw [hla] at HOw
          have HCr := Lib.hid hCr
          have hBw := hB.out.trans (below_le hB.out.size hBo.out)
          have HBw := Lib.hid hBw
          have hu : Hid (OwnB wr w.heap.size (.slice (some ⟨g, 0, none⟩) b b) (rowC b a)) := by
            have h := hR.out
            rw [partC_full] at h
            have hl : (rowC b a).length = b := by simp [rowC]
            exact (owns_bb h hl (by omega)).own (by rw [HGr.out]; exact hB.out.size) b hl
          have HLa := Lib.hid hla
          clear hbn hCr hrw hBw hla
          go_wp2_with (first | (at_builtin; go_loud (refine wpList_append_gen rfl (.tmp 66) (.tmp 68) 58 rfl 26 ii _ 1 24 Tryz.underlying58 HI.out HZ.out HSz.out HY.out rfl (by omega) w.heap.size w _ a ((List.range a).map vs) rfl HOw.out ⟨wr.heap.size, 0, none⟩ 1 1 [.slice (some ⟨g, 0, none⟩) b b] rfl rfl (cell_new1 _ _ _) (one_s _ _ _) (by unfold maxLen; omega) (by omega) (HBw.out.trans (below_le HBw.out.size HBn.out)) (Nat.le_trans HBw.out.size HBn.out.size) ?_); intro A5 c5 w5 ho5 hg5 hob5 hb5 hs5; have HS5 := Lib.hid (HCr.out.step HLa.out HBn.out hg5.out ho5.out hu.out); have k5 := HS5.out.1; have f5 := HS5.out.2.1) | fail)
          have hL : (List.range (a + 1)).map (rowC b) = (List.range a).map (rowC b) ++ [rowC b a] := by
            rw [List.range_succ, List.map_append]
            rfl
          have h3 := HS5.out.2.2
          rw [← hL] at h3
          exact ⟨⟨a + 1, _, _, by omega, by go_num, h3, below_grown hb5 hb5.size (grown_set w5 ⟨c, 2, none⟩ _) HCr.out.low⟩, by simp [intOf]; omega⟩
    · have ha1 : a = n := by omega
      subst ha1
      have hi : ¬ (a : Int) < a := by omega
      go_wp2_with fail
      go_ret2
      exact ⟨_, rfl, ⟨_, _, _, _, hC.out⟩, hB.out⟩
end Go.Proofs.YtkdlofgfkfhofaaGreatDoor

/-
  code: mix.
-/
namespace Go.Proofs.YtkdlofgfkfhofaaGreatDoor
open Go.RowKit Go.Maps

/-- slices of bytes that are read -/
structure RowsRd (w : World) (B : Nat) (v : Value) (vs : Nat → Value) (Ls : List (List UInt8)) : Prop where
  own : w.ownsRow B 26 1 v Ls.length ((List.range Ls.length).map vs)
  row : ∀ i l, Ls[i]? = some l → ∃ A c, vs i = .slice A l.length c ∧ RdB w A l.length c l
theorem RowsAt.rd {w : World} {B : Nat} {v : Value} {vs : Nat → Value} {Ls : List (List UInt8)} (h : RowsAt w B v vs Ls) : RowsRd w B v vs Ls := ⟨h.own, fun i l hl => (h.row i l hl).reads⟩
section
variable {w w' : World} {B : Nat} {v : Value} {vs : Nat → Value} {Ls : List (List UInt8)}
theorem RowsRd.ext (h : RowsRd w B v vs Ls) (hb : Below w.heap.size w w') : RowsRd w' B v vs Ls :=
  ⟨own_turned (P := fun _ => False) h.own (Turned.of_below hb) (fun _ _ => id), fun i l hl => by
    obtain ⟨A, c, h1, h2⟩ := h.row i l hl
    exact ⟨A, c, h1, h2.ext hb⟩⟩
theorem RowsRd.nil (w : World) (B : Nat) (vs : Nat → Value) : RowsRd w B (.slice none 0 0) vs [] := ⟨World.ownsRow_nil _ _ _ _, fun i l h => by simp at h⟩
theorem RowsRd.open_ (h : RowsRd w B v vs Ls) : ∃ A c, v = .slice A Ls.length c ∧ ∀ k, k < Ls.length → ∃ g, A = some ⟨g, 0, none⟩ ∧ B ≤ g ∧ g < w.heap.size ∧ w.cell? ⟨g, k, none⟩ = some (vs k) := by
  rcases h.own.2 with ⟨h1, h2⟩ | ⟨g, cap, cur, h1, h2, h3, h4, h5, h6, h7⟩
  · refine ⟨none, 0, by rw [h1, h2], fun k hk => by omega⟩
  · refine ⟨_, cap, h1, fun k hk => ⟨g, rfl, h2, (Array.getElem?_eq_some_iff.1 h3).1, ?_⟩⟩
    have hb : Bk w g 26 cur := h3
    rw [hb.cell k]
    have h8 : (List.take (Ls.length * 1) cur.toList)[k]? = ((List.range Ls.length).map vs)[k]? := by rw [h7]
    rw [Nat.mul_one, List.getElem?_take, if_pos hk, List.getElem?_map, List.getElem?_range hk] at h8
    rw [← Array.getElem?_toList, h8]
    rfl
end
/-- rows mixed by a row's bytes -/
def mixG (L : Nat) (R : List UInt8) (Ls : List (List UInt8)) : List UInt8 := (R.zip Ls).foldl (fun o p => addG p.1 o p.2) (rep L 0)
theorem mixG_len (L : Nat) (R : List UInt8) (Ls : List (List UInt8)) : (mixG L R Ls).length = L := by
  unfold mixG
  have h : ∀ (l : List (UInt8 × List UInt8)) (o : List UInt8), (l.foldl (fun o p => addG p.1 o p.2) o).length = o.length := by
    intro l
    induction l with
    | nil => intro o; rfl
    | cons p r ih =>
      intro o
      rw [List.foldl_cons, ih, addG_len]
  rw [h, rep_len]
theorem zip_take1 {α β : Type} : ∀ (R : List α) (Ls : List β) (m : Nat), (R.take m).zip Ls = (R.zip Ls).take m
  | [], Ls, m => by simp
  | x :: R, [], m => by simp
  | x :: R, l :: Ls, 0 => rfl
  | x :: R, l :: Ls, m + 1 => by
    show (x, l) :: (R.take m).zip Ls = (x, l) :: (R.zip Ls).take m
    rw [zip_take1 R Ls m]
theorem mixG_succ (L : Nat) (R : List UInt8) (Ls : List (List UInt8)) (j : Nat) {x : UInt8} {b : List UInt8} (hx : R[j]? = some x) (hb : Ls[j]? = some b) : mixG L (R.take (j + 1)) Ls = addG x (mixG L (R.take j) Ls) b := by
  have h1 : (R.zip Ls).take (j + 1) = (R.zip Ls).take j ++ [(x, b)] := by
    rw [List.take_add_one, List.getElem?_zip_eq_some.2 (show R[j]? = some (x, b).1 ∧ Ls[j]? = some (x, b).2 from ⟨hx, hb⟩)]
    rfl
  unfold mixG
  rw [zip_take1, h1, List.foldl_append, ← zip_take1]
  rfl
set_option maxRecDepth 100000 in
set_option maxHeartbeats 4000000 in
theorem mix_any {B c f k L : Nat} {v cv : Value} {vs cvs : Nat → Value} {Cs Ls : List (List UInt8)} {w : World} (hC : CodeP w B c f k cv cvs Cs) {B' : Nat} (hR : RowsRd w B' v vs Ls) (hL : ∀ l ∈ Ls, l.length = L) {N : Nat} (hN : Ls.length = N) (hpos : 1 ≤ N) (A : Option Addr) (cr : Nat) (R : List UInt8) (hr : RdB w A N cr R) (h8 : N ≤ 8) (hL1 : 1 ≤ L) (hL2 : L ≤ 1000) :
    Calls Tryz.prog 239 #[.pointer (some ⟨c, 0, none⟩), .slice A N cr, v] w fun e w' => ∃ u, e = .returned u ∧ OwnB w' w.heap.size u (mixG L R Ls) ∧ Below w.heap.size w w' := by
  obtain ⟨Av, cv', rfl, hcell⟩ := hR.open_
  obtain ⟨g0, rfl, _, _, c0⟩ := hcell 0 (by omega)
  have hlt0 : 0 < Ls.length := by omega
  have hrow0 := hR.row 0 (Ls[0]'hlt0) (List.getElem?_eq_getElem _)
  rw [hL _ (List.getElem_mem _)] at hrow0
  obtain ⟨A0, cc0, hv0, _⟩ := hrow0
  rw [hv0] at c0
  have hlen := hr.len
  rw [hN]
  have hpos1 : (0 : Int) < N := by omega
  have hmk := mk_bytes L L rfl (by omega)
  have c1 : w.cell? ⟨c, 1, none⟩ = some (.pointer (some ⟨f, 0, none⟩)) := hC.bk.cell 1
  have HNL := Lib.hid hN
  have HLen := Lib.hid hlen
  have HCl := Lib.hid hcell
  have HV0 := Lib.hid hv0
  have HR := Lib.hid hR
  have HRd := Lib.hid hr
  have HL := Lib.hid hL
  have HC := Lib.hid hC
  clear hcell hv0 hlen hN hR hr hL hC
  go_enter Tryz.func239, Tryz.ntmps239
  go_wp2_with fail
  have H0 : Hid (OwnAt (w.alloc (zeroBytes L)) w.heap.size L (mixG L (R.take 0) Ls)) := owns_bb (Bb.made w L) (by rw [mixG_len]) (by omega)
  have HB0 := Lib.hid (below_new w (zeroBytes L))
  obtain ⟨g, hg⟩ : ∃ g, g = w.heap.size := ⟨_, rfl⟩
  rw [← hg] at H0 ⊢
  have HG := Lib.hid hg
  have hgw : w.heap.size < (w.alloc (zeroBytes L)).heap.size := by simp [zeroBytes]
  generalize w.alloc (zeroBytes L) = W0 at H0 HB0 hgw ⊢
  clear hg hmk hgw
  go_loopw [17] (fun i wr => ∃ j : Nat, j ≤ N ∧ i = .int .i64 j ∧ Hid (OwnAt wr g L (mixG L (R.take j) Ls)) ∧ Hid (Below w.heap.size w wr)) (fun i _ => N - (intOf i).toNat)
  case atStart => exact ⟨0, Nat.zero_le _, rfl, H0, HB0⟩
  case round =>
    obtain ⟨j, hj, rfl, hO, hB⟩ := hrel
    clear H0 HB0
    by_cases hlt : j < N
    · have hi : (j : Int) < N := by omega
      have hjl : j < Ls.length := by rw [HNL.out]; exact hlt
      obtain ⟨_, e0, _, hg0, cj⟩ := HCl.out j hjl
      injection e0 with e0
      injection e0 with e0
      subst e0
      obtain ⟨Aj, ccj, hvj, hrj⟩ := HR.out.row j _ (List.getElem?_eq_getElem hjl)
      obtain ⟨lb, hlb⟩ : ∃ lb, Ls[j] = lb := ⟨_, rfl⟩
      have hLl := HL.out _ (List.getElem_mem hjl)
      rw [hlb] at hvj hrj hLl
      rw [hLl] at hvj hrj
      rw [hvj] at cj
      obtain ⟨ad, x, rfl, _, hx, cx⟩ := (HRd.out.ext hB.out).get (k := j) hlt
      have cjr : wr.cell? ⟨g0, j, none⟩ = some (.slice Aj L ccj) := (hB.out.cell (p := ⟨g0, j, none⟩) hg0).trans cj
      have hCr := HC.out.ext hB.out
      have c1r : wr.cell? ⟨c, 1, none⟩ = some (.pointer (some ⟨f, 0, none⟩)) := hCr.bk.cell 1
      have hfl : f < w.heap.size := Bk.lt HC.out.fld
      have hadj : ∀ ad, Aj = some ad → ad.block ≠ g := fun ad e => by
        obtain ⟨ad', e', hlt', _⟩ := Rd.get hrj (k := 0) (by omega)
        rw [e] at e'
        injection e' with e'
        rw [HG.out, e']
        omega
      have HAdd : Hid (∀ v, Below wr.heap.size wr v → Calls Tryz.prog 275 #[.pointer (some ⟨f, 0, none⟩), .slice (some ⟨g, 0, none⟩) L L, .slice Aj L ccj, .int .u8 (w8 x)] v fun e w' => e = .returned (.tuple #[]) ∧ Hid (OwnAt w' g L (mixG L (R.take (j + 1)) Ls)) ∧ Hid (Below w.heap.size w w') ∧ Turned (fun b => b = g) v w') := fun v hv => by
        rw [mixG_succ L R Ls j hx.out (by rw [List.getElem?_eq_getElem hjl, hlb])]
        refine (add_any (Bk.ext hCr.fld hv) (by rw [HG.out]; omega) _ (hO.out.ext hv) L L (mixG_len _ _ _).symm Aj L ccj lb ((hrj.ext hB.out).ext hv) ?_ x hL2 hL2).mono fun e w' ⟨a1, a2, a3⟩ => ⟨a1, a2, ?_, a3⟩
        · exact hadj
        · exact a3.below (hB.out.trans (below_le hB.out.size hv)) (Nat.le_trans hB.out.size hv.size) (fun i e => by rw [e, HG.out]; exact Nat.le_refl _)
      have F0 : Hid (Below wr.heap.size wr wr.drew) := below_drew1 (Below.refl _ _)
      have hcg : c ≠ g := by have := HC.out.bk.lt; have := HG.out; omega
      have hg0g : g0 ≠ g := by have := HG.out; omega
      have hlc := cell_ltD c1r
      have hlg := cell_ltD cjr
      have FS : Hid (∀ v w', Below wr.heap.size wr v → Turned (fun b => b = g) v w' → w'.cell? ⟨c, 1, none⟩ = some (.pointer (some ⟨f, 0, none⟩)) ∧ w'.cell? ⟨g0, j, none⟩ = some (.slice Aj L ccj)) := fun v w' hv ht =>
        ⟨(turned_cell ht (p := ⟨c, 1, none⟩) (Nat.lt_of_lt_of_le hlc hv.size) hcg).trans ((hv.cell (p := ⟨c, 1, none⟩) hlc).trans c1r), (turned_cell ht (p := ⟨g0, j, none⟩) (Nat.lt_of_lt_of_le hlg hv.size) hg0g).trans ((hv.cell (p := ⟨g0, j, none⟩) hlg).trans cjr)⟩
      clear cj cjr c1r hCr hadj hlb hLl hvj hrj hlc hlg hcg hg0g hg0 hfl
      go_wp2_with fail
      go_region_held3 (fun v => v.cell? ⟨c, 1, none⟩ = some (.pointer (some ⟨f, 0, none⟩)) ∧ v.cell? ⟨g0, j, none⟩ = some (.slice Aj L ccj)) (first | exact FS.out _ _ F0.out (Turned.refl _ _) | exact FS.out _ _ F0.out HT4.out | fail) (first | (go_at_call 275; go_loud ((with_reducible refine (HAdd.out _ F0.out).mono ?_); rintro er w4 ⟨rfl, ho4, hb4, ht4⟩; have HT4 := Lib.hid ht4; clear ht4)) | fail)
      all_goals
        go_wp2_with fail
        exact ⟨⟨j + 1, by omega, by go_num, ho4, hb4⟩, by simp [intOf]; omega⟩
    · have hj1 : j = N := by omega
      subst hj1
      have hi : ¬ (j : Int) < j := by omega
      go_wp2_with fail
      go_ret
      have h := hO.out
      rw [List.take_of_length_le (by rw [HLen.out]; exact Nat.le_refl _)] at h
      exact ⟨_, rfl, h.own (by rw [HG.out]; exact Nat.le_refl _) L (mixG_len _ _ _), hB.out⟩
end Go.Proofs.YtkdlofgfkfhofaaGreatDoor

/-
  code: Encode.
-/
namespace Go.Proofs.YtkdlofgfkfhofaaGreatDoor
open Go.RowKit Go.Maps

set_option maxRecDepth 100000 in
theorem encF_any {tp : Addr} {g0 N cv L cc0 : Nat} {A0 : Option Addr} {w : World} (ht : w.cell? tp = some (.slice (some ⟨g0, 0, none⟩) N cv)) (h0 : w.cell? ⟨g0, 0, none⟩ = some (.slice A0 L cc0)) (hN : (0 : Int) < N) (A : Option Addr) (c : Nat) :
    Calls Tryz.prog 238 #[.slice A L c, .pointer (some tp)] w fun e w' => e = .returned (.bool false) ∧ w' = w := by
  go_enter Tryz.func238, Tryz.ntmps238
  go_wp2
  go_ret
  exact ⟨rfl, rfl⟩
set_option maxRecDepth 100000 in
set_option maxHeartbeats 2000000 in
theorem idxF_any {tp : Addr} {g0 N cv L : Nat} {vs : Nat → Value} {w : World} (ht : w.cell? tp = some (.slice (some ⟨g0, 0, none⟩) N cv)) (hc : ∀ k, k < N → w.cell? ⟨g0, k, none⟩ = some (vs k)) (hv : ∀ k, k < N → ∃ A c, vs k = .slice A L c) (hN : 1 ≤ N) (h8 : N ≤ 8) :
    Calls Tryz.prog 274 #[.slice (some ⟨g0, 0, none⟩) N cv, .func (.func 238) #[] #[.pointer (some tp)]] w fun e w' => e = .returned (.int .i64 (-1)) ∧ w' = w := by
  obtain ⟨A0, c0, hv0⟩ := hv 0 (by omega)
  have h0 := hc 0 (by omega)
  rw [hv0] at h0
  have HE := Lib.hid (encF_any (w := w) ht h0 (by omega))
  have HC := Lib.hid hc
  have HV := Lib.hid hv
  clear hc hv h0 hv0
  go_enter Tryz.func274, Tryz.ntmps274
  go_wp2_with fail
  go_loopw [8] (fun i wr => ∃ j : Nat, j ≤ N ∧ i = .int .i64 j ∧ wr = w) (fun i _ => N - (intOf i).toNat)
  case atStart => exact ⟨0, Nat.zero_le _, rfl, rfl⟩
  case round =>
    obtain ⟨j, hj, rfl, rfl⟩ := hrel
    by_cases hlt : j < N
    · have hi : (j : Int) < N := by omega
      obtain ⟨Aj, cj, hvj⟩ := HV.out j hlt
      have hcj := HC.out j hlt
      rw [hvj] at hcj
      clear hvj
      go_wp2_with (first | (go_at_call 238; (with_reducible refine (HE.out _ _).mono ?_); rintro er w4 ⟨rfl, rfl⟩) | fail)
      exact ⟨⟨j + 1, by omega, by go_num, trivial⟩, by simp [intOf]; omega⟩
    · have hj1 : j = N := by omega
      subst hj1
      have hi : ¬ (j : Int) < j := by omega
      go_wp2_with fail
      go_ret
      exact ⟨rfl, rfl⟩
set_option maxRecDepth 100000 in
set_option maxHeartbeats 2000000 in
theorem conF_any {tp : Addr} {g0 N cv L : Nat} {vs : Nat → Value} {w : World} (ht : w.cell? tp = some (.slice (some ⟨g0, 0, none⟩) N cv)) (hc : ∀ k, k < N → w.cell? ⟨g0, k, none⟩ = some (vs k)) (hv : ∀ k, k < N → ∃ A c, vs k = .slice A L c) (hN : 1 ≤ N) (h8 : N ≤ 8) :
    Calls Tryz.prog 237 #[.slice (some ⟨g0, 0, none⟩) N cv, .func (.func 238) #[] #[.pointer (some tp)]] w fun e w' => e = .returned (.bool false) ∧ w' = w := by
  have HI := Lib.hid (idxF_any ht hc hv hN h8)
  clear hc hv ht
  go_enter Tryz.func237, Tryz.ntmps237
  go_wp2_with (first | (go_at_call 274; (with_reducible refine HI.out.mono ?_); rintro er w4 ⟨rfl, rfl⟩) | fail)
  go_ret
  exact ⟨rfl, rfl⟩
set_option maxRecDepth 100000 in
set_option maxHeartbeats 4000000 in
theorem encode_any {c k n L : Nat} {v : Value} {vs : Nat → Value} {Ls : List (List UInt8)} {w : World} (hC : CodeAt w c k n) {B' : Nat} (hR : RowsRd w B' v vs Ls) (hL : ∀ l ∈ Ls, l.length = L) (hN : Ls.length = k) (hk : 1 ≤ k) (hn : k ≤ n) (h8 : n ≤ 8) (hL1 : 1 ≤ L) (hL2 : L ≤ 1000) :
    Calls Tryz.prog 190 #[.pointer (some ⟨c, 0, none⟩), v] w fun e w' => ∃ u, e = .returned (.tuple #[u, .nilIface]) ∧ (∃ us, RowsAt w' w.heap.size u us ((List.range n).map fun a => mixG L (rowC k a) Ls)) ∧ Below w.heap.size w w' := by
  obtain ⟨B, f, cv, cvs, hC⟩ := hC
  obtain ⟨Av, cv', rfl, hcell⟩ := hR.open_
  have hR0 := hR
  rw [hN] at hR hcell ⊢
  obtain ⟨g0, rfl, _, hg0, _⟩ := hcell 0 (by omega)
  obtain ⟨ii, hi0, hz0, hs0, hy0⟩ := info_parts info_bs
  have HI := Lib.hid hi0
  have HZ := Lib.hid hz0
  have HSz := Lib.hid hs0
  have HY := Lib.hid hy0
  have hvL : ∀ j, j < k → ∃ A c, vs j = .slice A L c := fun j hj => by
    obtain ⟨A, cc, h1, _⟩ := hR.row j (Ls[j]'(by omega)) (List.getElem?_eq_getElem _)
    rw [hL _ (List.getElem_mem _)] at h1
    exact ⟨A, cc, h1⟩
  have hcc : ∀ j, j < k → w.cell? ⟨g0, j, none⟩ = some (vs j) := fun j hj => by
    obtain ⟨g', e, _, _, h1⟩ := hcell j hj
    injection e with e
    injection e with e
    rw [e]
    exact h1
  have HVL := Lib.hid hvL
  have HCC := Lib.hid hcc
  have HC := Lib.hid hC
  have HR := Lib.hid hR
  have HLL := Lib.hid hL
  have HN := Lib.hid hN
  clear hi0 hz0 hs0 hy0 hcell hvL hcc hC hR hL hR0 hN
  go_enter Tryz.func190, Tryz.ntmps190
  go_wp2_with fail
  have hb0 := below_new w (.cells #[.slice (some ⟨g0, 0, none⟩) k cv'] 58)
  have ht0 : (w.alloc (.cells #[.slice (some ⟨g0, 0, none⟩) k cv'] 58)).cell? ⟨w.heap.size, 0, none⟩ = some (.slice (some ⟨g0, 0, none⟩) k cv') := (Bk.made w _ _).cell 0
  generalize w.alloc (.cells #[.slice (some ⟨g0, 0, none⟩) k cv'] 58) = W at hb0 ht0 ⊢
  have c0 : W.cell? ⟨c, 0, none⟩ = some (.int .i64 (k : Int)) := (HC.out.ext hb0).bk.cell 0
  have hcW : ∀ j, j < k → W.drew.cell? ⟨g0, j, none⟩ = some (vs j) := fun j hj => (hb0.cell (p := ⟨g0, j, none⟩) hg0).trans (HCC.out j hj)
  have HCo := Lib.hid (conF_any (w := W.drew) (tp := ⟨w.heap.size, 0, none⟩) ht0 hcW HVL.out hk (by omega))
  have F0 : Hid (W.drew.cell? ⟨w.heap.size, 0, none⟩ = some (.slice (some ⟨g0, 0, none⟩) k cv') ∧ W.drew.cell? ⟨c, 0, none⟩ = some (.int .i64 (k : Int))) := ⟨ht0, c0⟩
  have HB0 := Lib.hid hb0
  clear hcW hb0
  go_region_held3 (fun v => v.cell? ⟨w.heap.size, 0, none⟩ = some (.slice (some ⟨g0, 0, none⟩) k cv') ∧ v.cell? ⟨c, 0, none⟩ = some (.int .i64 (k : Int))) (first | exact F0.out | fail) (first | (go_at_call 237; go_loud ((with_reducible refine HCo.out.mono ?_); rintro er w4 ⟨rfl, rfl⟩)) | fail)
  have HB1 := Lib.hid (below_drew1 HB0.out)
  have hd : W.drew.cell? ⟨w.heap.size, 0, none⟩ = some (.slice (some ⟨g0, 0, none⟩) k cv') := ht0
  generalize W.drew = W1 at HB1 hd ⊢
  have hC1 := HC.out.ext HB1.out
  obtain ⟨Ac, cc, hcv, hcr⟩ := hC1.rows.open_
  have hln : ((List.range n).map (rowC k)).length = n := by simp
  rw [hln] at hcv hcr
  obtain ⟨gc, rfl, _, hgc, _⟩ := hcr 0 (by omega)
  have hcr2 : ∀ j, j < n → W1.cell? ⟨gc, j, none⟩ = some (cvs j) := fun j hj => by
    obtain ⟨g', e, _, _, h1⟩ := hcr j hj
    injection e with e
    injection e with e
    rw [e]
    exact h1
  have hc2 : W1.cell? ⟨c, 2, none⟩ = some cv := hC1.bk.cell 2
  subst hcv
  have HC1 := Lib.hid hC1
  have HCr := Lib.hid hcr2
  clear hC1 hcr hcr2 HCo F0 ht0 c0
  go_wp2_with fail
  go_loopw [6, 28] (fun u i wr => ∃ (a : Nat) (us : Nat → Value), a ≤ n ∧ i = .int .i64 a ∧ Hid (RowsAt wr W1.heap.size u us ((List.range a).map fun a => mixG L (rowC k a) Ls)) ∧ Hid (Below W1.heap.size W1 wr)) (fun _ i _ => n - (intOf i).toNat)
  case atStart => exact ⟨0, fun _ => .slice none 0 0, Nat.zero_le _, rfl, RowsAt.nil _ _ _, Below.refl _ _⟩
  case round =>
    obtain ⟨a, us, ha, rfl, hU, hB⟩ := hrel
    have hBw := HB1.out.trans (below_le HB1.out.size hB.out)
    by_cases hlt : a < n
    · have hi : (a : Int) < n := by omega
      have hCr := HC1.out.ext hB.out
      have hra := hCr.rows.row a (rowC k a) (by rw [List.getElem?_map, List.getElem?_range hlt]; rfl)
      obtain ⟨Ar, cr, hvr, hrr⟩ := hra.reads
      have hlk : (rowC k a).length = k := by simp [rowC]
      rw [hlk] at hvr hrr
      have hcra : wr.cell? ⟨gc, a, none⟩ = some (.slice Ar k cr) := by
        rw [← hvr]
        exact (hB.out.cell (p := ⟨gc, a, none⟩) hgc).trans (HCr.out a hlt)
      have hdr : wr.cell? ⟨w.heap.size, 0, none⟩ = some (.slice (some ⟨g0, 0, none⟩) k cv') := (hB.out.cell (p := ⟨w.heap.size, 0, none⟩) (cell_ltD hd)).trans hd
      have HMix := Lib.hid (mix_any hCr (HR.out.ext hBw) HLL.out HN.out hk Ar cr (rowC k a) hrr (by omega) hL1 hL2)
      obtain ⟨Au, cu, hvu, _⟩ := hU.out.open_
      have hla : ((List.range a).map fun a => mixG L (rowC k a) Ls).length = a := by simp
      rw [hla] at hvu
      subst hvu
      have HLa := Lib.hid hla
      have HBw := Lib.hid hBw
      clear hCr hra hvr hrr hlk hla hBw
      go_wp2_with (first | (go_at_call 239; (with_reducible refine HMix.out.mono ?_); rintro er w4 ⟨u4, rfl, ho4, hb4⟩; obtain ⟨A4, c4, e4, _⟩ := ho4.reads; rw [mixG_len] at e4; subst e4; have HU4 := Lib.hid (hU.out.ext hb4); have HO4 := Lib.hid (ho4.moreD hB.out.size); have HBn := Lib.hid (below_new w4 (.cells #[.slice A4 L c4] 26)); have HOw := Lib.hid (own_turned (P := fun _ => False) HU4.out.own (Turned.of_below HBn.out) (fun _ _ => id)); rw [HLa.out] at HOw; have HBs := Lib.hid (hB.out.trans (below_le hB.out.size hb4)); clear ho4 hb4) | (at_builtin; go_loud (refine wpList_append_gen rfl (.tmp 32) (.tmp 37) 58 rfl 26 ii _ 1 24 Tryz.underlying58 HI.out HZ.out HSz.out HY.out rfl (by omega) W1.heap.size W1 _ a ((List.range a).map us) rfl HOw.out ⟨w4.heap.size, 0, none⟩ 1 1 [.slice A4 L c4] rfl rfl (cell_new1 _ _ _) (one_s _ _ _) (by unfold maxLen; omega) (by omega) (HBs.out.trans (below_le HBs.out.size HBn.out)) (Nat.le_trans HBs.out.size HBn.out.size) ?_); intro A5 c5 w5 ho5 hg5 hob5 hb5 hs5; have HS5 := Lib.hid (HU4.out.app HLa.out HBn.out hg5.out ho5.out HO4.out)) | fail)
      have hL2 : (List.range (a + 1)).map (fun a => mixG L (rowC k a) Ls) = (List.range a).map (fun a => mixG L (rowC k a) Ls) ++ [mixG L (rowC k a) Ls] := by
        rw [List.range_succ, List.map_append]
        rfl
      have h3 := HS5.out.1
      rw [← hL2] at h3
      exact ⟨⟨a + 1, _, by omega, by go_num, h3, hb5⟩, by simp [intOf]; omega⟩
    · have ha1 : a = n := by omega
      subst ha1
      have hi : ¬ (a : Int) < a := by omega
      go_wp2_with fail
      go_ret2
      exact ⟨_, rfl, ⟨_, hU.out.more HB1.out.size⟩, hBw⟩
end Go.Proofs.YtkdlofgfkfhofaaGreatDoor

/-
  code: scale by 1.
-/
namespace Go.Proofs.YtkdlofgfkfhofaaGreatDoor
open Go.RowKit Go.Maps

/-- a store of what is there -/
theorem cell_same {w : World} {g i : Nat} {t : TypeId} {cs : Array Value} {u : Value} (h : Bk w g t cs) (hc : w.cell? ⟨g, i, none⟩ = some u) : w.setCell ⟨g, i, none⟩ u = w := by
  rw [h.cell i] at hc
  have e : cs.setIfInBounds i u = cs := by
    apply Array.ext_getElem?
    intro j
    rw [Array.getElem?_setIfInBounds]
    by_cases hj : i = j
    · subst hj
      rw [if_pos rfl, if_pos (Array.getElem?_eq_some_iff.1 hc).1, hc]
    · rw [if_neg hj]
  have h2 := h.put i u
  rw [e] at h2
  have hh : (w.setCell ⟨g, i, none⟩ u).heap = w.heap := by
    apply Array.ext_getElem?
    intro j
    by_cases hj : j = g
    · subst hj
      exact h2.trans h.symm
    · exact Below.heap_setCell w ⟨g, i, none⟩ u j hj
  have hr : (w.setCell ⟨g, i, none⟩ u) = { w with heap := (w.setCell ⟨g, i, none⟩ u).heap } := rfl
  rw [hr, hh]
theorem cell_sameD {w : World} {g i q : Nat} {t : TypeId} {cs : Array Value} {u : Value} (h : Bk w g t cs) (hc : w.cell? ⟨g, i, none⟩ = some u) : (w.drewN q).setCell ⟨g, i, none⟩ u = w.drewN q := cell_same (w := w.drewN q) h hc
theorem mulG_one : ∀ a : UInt8, mulG a 1 = a := by
  have h : ∀ n : Fin 256, mulG (UInt8.ofNat n.val) 1 = UInt8.ofNat n.val := by decide +kernel
  intro a
  have := h ⟨a.toNat, a.toNat_lt⟩
  simpa using this
theorem invG_one : invG 1 = 1 := by decide +kernel
theorem drewN_drewN (w : World) (p q : Nat) : (w.drewN p).drewN q = w.drewN (p + q) := by
  induction q with
  | zero => rfl
  | succ q ih => 
    show ((w.drewN p).drewN q).drew = (w.drewN (p + q)).drew
    rw [ih]
set_option maxRecDepth 100000 in
set_option maxHeartbeats 4000000 in
theorem scale_any {B c f k : Nat} {cv : Value} {cvs : Nat → Value} {Cs : List (List UInt8)} {w : World} (hC : CodeP w B c f k cv cvs Cs) {ga capa gb capb : Nat} {la lb : List UInt8} (ha : OwnAt w ga capa la) (hb : OwnAt w gb capb lb) (na ca nb cb : Nat) (hna : na = la.length) (hnb : nb = lb.length) (h1 : na ≤ 1000) (h2 : nb ≤ 1000) :
    Calls Tryz.prog 287 #[.pointer (some ⟨c, 0, none⟩), .slice (some ⟨ga, 0, none⟩) na ca, .slice (some ⟨gb, 0, none⟩) nb cb, .int .u8 1] w fun e w' => e = .returned (.tuple #[]) ∧ ∃ q, w' = w.drewN q := by
  have c1 : ∀ q, (w.drewN q).cell? ⟨c, 1, none⟩ = some (.pointer (some ⟨f, 0, none⟩)) := fun _ => hC.bk.cell 1
  have HM : Hid (∀ q x, Calls Tryz.prog 294 #[.pointer (some ⟨f, 0, none⟩), .int .u8 (w8 x), .int .u8 1] (w.drewN q) fun e w' => e = .returned (.int .u8 (w8 x)) ∧ ∃ q', w' = w.drewN q') := fun q x =>
    (mul_any (w := w.drewN q) hC.fld x 1).mono fun e w' ⟨a1, q', a2⟩ => ⟨by rw [a1, mulG_one], q + q', by rw [a2, drewN_drewN]⟩
  have HA := Lib.hid ha
  have HB := Lib.hid hb
  have HNA := Lib.hid hna
  have HNB := Lib.hid hnb
  clear hC ha hb hna hnb
  go_enter Tryz.func287, Tryz.ntmps287
  go_wp2_with fail
  go_loopw [12] (fun i wr => ∃ j q : Nat, j ≤ na ∧ i = .int .i64 j ∧ wr = w.drewN q) (fun i _ => na - (intOf i).toNat)
  case atStart => exact ⟨0, 0, Nat.zero_le _, rfl, rfl⟩
  case round =>
    obtain ⟨j, q, hj, rfl, rfl⟩ := hrel
    by_cases hlt : j < na
    · have hi : (j : Int) < na := by omega
      obtain ⟨z, hz, cz⟩ := HA.out.get (i := j) (by rw [← HNA.out]; exact hlt)
      have czq : ∀ q, (w.drewN q).cell? ⟨ga, j, none⟩ = some (.int .u8 (w8 z)) := fun _ => cz
      have fzq : ∀ q, (w.drewN q).frozen? ⟨ga, j, none⟩ = false := fun _ => HA.out.thaw j
      have hset : ∀ q, (w.drewN q).setCell ⟨ga, j, none⟩ (.int .u8 (w8 z)) = w.drewN q := fun q => by
        obtain ⟨cur, hb, _⟩ := HA.out.at_
        exact cell_sameD hb cz
      clear cz hz
      go_wp2_with fail
      go_region_law (first | (go_simp; go_at_call 294; go_loud ((with_reducible refine (HM.out _ _).mono ?_); rintro er w4 ⟨rfl, q4, rfl⟩)) | fail)
      all_goals
        go_wp2_with fail
        exact ⟨⟨j + 1, q4, by omega, by go_num, rfl⟩, by simp [intOf]; omega⟩
    · have hj1 : j = na := by omega
      subst hj1
      have hi : ¬ (j : Int) < j := by omega
      go_wp2_with fail
      go_loopw [31] (fun i wr => ∃ j q : Nat, j ≤ nb ∧ i = .int .i64 j ∧ wr = w.drewN q) (fun i _ => nb - (intOf i).toNat)
      case atStart => exact ⟨0, q, Nat.zero_le _, rfl, rfl⟩
      case round =>
        obtain ⟨j, q, hj, rfl, rfl⟩ := hrel
        by_cases hlt : j < nb
        · have hi : (j : Int) < nb := by omega
          obtain ⟨z, hz, cz⟩ := HB.out.get (i := j) (by rw [← HNB.out]; exact hlt)
          have czq : ∀ q, (w.drewN q).cell? ⟨gb, j, none⟩ = some (.int .u8 (w8 z)) := fun _ => cz
          have fzq : ∀ q, (w.drewN q).frozen? ⟨gb, j, none⟩ = false := fun _ => HB.out.thaw j
          have hset : ∀ q, (w.drewN q).setCell ⟨gb, j, none⟩ (.int .u8 (w8 z)) = w.drewN q := fun q => by
            obtain ⟨cur, hb, _⟩ := HB.out.at_
            exact cell_sameD hb cz
          clear cz hz
          go_wp2_with fail
          go_region_law (first | (go_simp; go_at_call 294; go_loud ((with_reducible refine (HM.out _ _).mono ?_); rintro er w4 ⟨rfl, q4, rfl⟩)) | fail)
          all_goals
            go_wp2_with fail
            exact ⟨⟨j + 1, q4, by omega, by go_num, rfl⟩, by simp [intOf]; omega⟩
        · have hj1 : j = nb := by omega
          subst hj1
          have hi : ¬ (j : Int) < j := by omega
          go_wp2_with fail
          go_end0
          exact ⟨rfl, _, rfl⟩
end Go.Proofs.YtkdlofgfkfhofaaGreatDoor
