import Derived.Test.YtkdlofgfkfhofaaGreatDoorP12
import Derived.Test.YtkdlofgfkfhofaaGreatDoorP09
import Derived.Test.YtkdlofgfkfhofaaGreatDoorP11
import Derived.Test.YtkdlofgfkfhofaaGreatDoorP05
import Derived.Deep.RegionHeld3
/-
  stripe: Sector, known, Frames.
-/
namespace Go.Proofs.YtkdlofgfkfhofaaGreatDoor
open Go.RowKit Go.Maps

def sectorS (c : CfgM) (s : Int) : Int := 1 + c.slots * c.k + s
set_option maxRecDepth 100000 in
set_option maxHeartbeats 1000000 in
theorem sSector_any {c : CfgM} (h : c.In) {s : Nat} (hs : (s : Int) < c.stripes) (w : World) : Calls Tryz.prog 148 #[.agg #[.int .i64 c.id, .int .i64 c.k, .int .i64 c.n, .int .i64 c.stripes, .int .i64 c.slots], .int .i64 s] w fun e w' => e = .returned (.int .i64 (sectorS c s)) ∧ Below w.heap.size w w' := by
  have hk := Bk.made w 25 #[.int .i64 c.id, .int .i64 c.k, .int .i64 c.n, .int .i64 c.stripes, .int .i64 c.slots]
  have hb := below_new w (.cells #[.int .i64 c.id, .int .i64 c.k, .int .i64 c.n, .int .i64 c.stripes, .int .i64 c.slots] 25)
  obtain ⟨p1, p2⟩ := prod_in h
  have s2 := h.s2
  obtain ⟨q, hq⟩ : ∃ q, q = sectorS c s := ⟨_, rfl⟩
  have hq2 : (1 : Int) + c.slots * c.k + s = q := by rw [hq]; rfl
  rw [← hq]
  clear hq h
  go_enter Tryz.func148, Tryz.ntmps148
  go_wp2_with fail
  go_ret
  exact ⟨rfl, hb⟩
set_option maxRecDepth 100000 in
set_option maxHeartbeats 1000000 in
theorem sKnown_any {w : World} {o : Nat → Option Nat} {r n S : Nat} {W : Nat → Nat → List UInt8} (h : StoAt w o r n S W) {c : CfgM} (hc : c.At n S) {s : Nat} (hs : (s : Int) < c.stripes) :
    Calls Tryz.prog 146 #[.pointer (some ⟨r, 0, none⟩), .agg #[.int .i64 c.id, .int .i64 c.k, .int .i64 c.n, .int .i64 c.stripes, .int .i64 c.slots], .int .i64 s] w fun e w' => e = .returned (.bool true) ∧ Below w.heap.size w w' := by
  have hk := Bk.made w 25 #[.int .i64 c.id, .int .i64 c.k, .int .i64 c.n, .int .i64 c.stripes, .int .i64 c.slots]
  have hb := below_new w (.cells #[.int .i64 c.id, .int .i64 c.k, .int .i64 c.n, .int .i64 c.stripes, .int .i64 c.slots] 25)
  have HF := Lib.hid (stoFits (h.ext hb) hc)
  have h0 : (0 : Int) ≤ s := by omega
  clear h hc
  go_enter Tryz.func146, Tryz.ntmps146
  go_wp2_with fail
  generalize w.alloc (.cells #[.int .i64 c.id, .int .i64 c.k, .int .i64 c.n, .int .i64 c.stripes, .int .i64 c.slots] 25) = W1 at hk hb HF ⊢
  with_reducible refine HF.out.mono ?_
  rintro er w4 ⟨rfl, hb4⟩
  have hk4 := hk.ext hb4
  have c4 : w4.cell? ⟨w.heap.size, 3, none⟩ = some (.int .i64 c.stripes) := hk4.cell 3
  have HB := Lib.hid (hb.trans (below_le hb.size hb4))
  clear hk hk4 hb hb4
  go_wp2_with fail
  go_ret
  exact ⟨rfl, HB.out⟩
/-- a slice of blocks that is read -/
structure BlkRd (w : World) (A : Option Addr) (Ls : List (List UInt8)) : Prop where
  len : ∀ l ∈ Ls, l.length = 108
  row : ∀ i l, Ls[i]? = some l → ∃ g, A = some ⟨g, 0, none⟩ ∧ g < w.heap.size ∧ ∀ j, j < 108 → w.cell? ⟨g, i * 108 + j, none⟩ = (bvs l)[j]?
theorem cell_ext' {w w' : World} {g j : Nat} (hb : Below w.heap.size w w') (hg : g < w.heap.size) : w'.cell? ⟨g, j, none⟩ = w.cell? ⟨g, j, none⟩ := by
  unfold World.cell?
  rw [hb.block g hg]
theorem BlkRd.ext {w w' : World} {A : Option Addr} {Ls : List (List UInt8)} (h : BlkRd w A Ls) (hb : Below w.heap.size w w') : BlkRd w' A Ls := ⟨h.len, fun i l hl => by
  obtain ⟨g, h1, h2, h3⟩ := h.row i l hl
  exact ⟨g, h1, Nat.lt_of_lt_of_le h2 hb.size, fun j hj => (cell_ext' hb h2).trans (h3 j hj)⟩⟩
/-- a block in a slice of them -/
theorem ldK_mid {w : World} {g o : Nat} {l : List UInt8} (hl : l.length = 108) (h : ∀ t, t < 108 → w.cell? ⟨g, o + t, none⟩ = (bvs l)[t]?) : (ldK (.pointer (some ⟨g, o, none⟩))).run Tryz.prog w = .ok (.agg (bvs l).toArray) w :=
  run_loadAt_mid (P := Tryz.prog) w g o 315 (bvs l) _ (fun j v hv => by
    have hj : j < 108 := by
      have := (List.getElem?_eq_some_iff.1 hv).1
      rw [bvs_len, hl] at this
      exact this
    rw [h j hj, ← hv]) Tryz.underlying315 rfl (by have := size_blk hl; simpa using this)
theorem one_bvs (D : List UInt8) : (bvs D).toArray.all (·.oneCell') = true := by
  rw [Array.all_eq_true_iff_forall_mem]
  intro v hv
  obtain ⟨b, _, rfl⟩ := List.mem_map.1 (List.mem_toArray.1 hv)
  rfl
theorem stK_new (w : World) (O D : List UInt8) (hO : O.length = 108) (hD : D.length = 108) : (stK (.pointer (some ⟨w.heap.size, 0, none⟩)) (.agg (bvs D).toArray)).run Tryz.prog (w.alloc (.cells (bvs O).toArray 315)) = .ok () (w.alloc (.cells (bvs D).toArray 315)) :=
  run_storeAt_new w 315 _ _ (size_blk hD) (by simp [bvs_len, hO, hD]) (one_bvs D)
theorem own_open {w : World} {B n sz : Nat} {e : TypeId} {v : Value} {xs : List Value} (h : w.ownsRow B e sz v n xs) : ∃ A c, v = .slice A n c := by
  rcases h.2 with ⟨h1, h2⟩ | ⟨g, cap, cur, h1, _⟩
  · exact ⟨none, 0, by rw [h1, h2]⟩
  · exact ⟨_, _, h1⟩
theorem own_base {w : World} {B B' n sz : Nat} {e : TypeId} {v : Value} {xs : List Value} (h : w.ownsRow B e sz v n xs) (hB : B' ≤ B) : w.ownsRow B' e sz v n xs := by
  refine ⟨h.1, ?_⟩
  rcases h.2 with h | ⟨g, cap, cur, h1, h2, h3⟩
  · exact .inl h
  · exact .inr ⟨g, cap, cur, h1, Nat.le_trans hB h2, h3⟩
theorem ownB_cells {w : World} {B : Nat} {v : Value} {l : List UInt8} (h : OwnB w B v l) (h0 : 0 < l.length) : ∃ g cap, v = .slice (some ⟨g, 0, none⟩) l.length cap ∧ B ≤ g ∧ g < w.heap.size ∧ l.length ≤ cap ∧ ∀ t, t < l.length → w.cell? ⟨g, 0 + t, none⟩ = (bvs l)[t]? := by
  rcases (show w.ownsRow B 5 1 v l.length (bvs l) from h).2 with ⟨h1, h2⟩ | ⟨g, cap, cur, h1, h2, h3, h4, h5, h6, h7⟩
  · omega
  · refine ⟨g, cap, h1, h2, (Array.getElem?_eq_some_iff.1 h3).1, h4, fun t ht => ?_⟩
    have hb : Bk w g 5 cur := h3
    rw [hb.cell (0 + t)]
    have h8 := congrArg (fun x => x[t]?) h7
    replace h8 : (List.take (l.length * 1) cur.toList)[t]? = (bvs l)[t]? := h8
    rw [Nat.mul_one, List.getElem?_take, if_pos ht] at h8
    rw [← h8, Nat.zero_add, Array.getElem?_toList]
/-- slices of whole blocks -/
structure RowsB (w : World) (B : Nat) (v : Value) (vs : Nat → Value) (Ls : List (List UInt8)) : Prop where
  own : w.ownsRow B 26 1 v Ls.length ((List.range Ls.length).map vs)
  row : ∀ i l, Ls[i]? = some l → ∃ g, vs i = .slice (some ⟨g, 0, none⟩) 108 108 ∧ l.length = 108 ∧ Bk w g 315 (bvs l).toArray
theorem RowsB.nil (w : World) (B : Nat) (vs : Nat → Value) : RowsB w B (.slice none 0 0) vs [] := ⟨World.ownsRow_nil _ _ _ _, fun i l h => by simp at h⟩
theorem RowsB.ext {w w' : World} {B : Nat} {v : Value} {vs : Nat → Value} {Ls : List (List UInt8)} (h : RowsB w B v vs Ls) (hb : Below w.heap.size w w') : RowsB w' B v vs Ls :=
  ⟨own_turned (P := fun _ => False) h.own (Turned.of_below hb) (fun _ _ => id), fun i l hl => by
    obtain ⟨g, h1, h2, h3⟩ := h.row i l hl
    exact ⟨g, h1, h2, h3.ext hb⟩⟩
theorem RowsB.snoc {w w5 : World} {B n g : Nat} {v v5 : Value} {vs : Nat → Value} {Ls : List (List UInt8)} {l : List UInt8} (h : RowsB w B v vs Ls) (hn : Ls.length = n) (hg : w.grownBy w5 v.ownBlock) (ho : w5.ownsRow B 26 1 v5 (n + 1) ((List.range n).map vs ++ [.slice (some ⟨g, 0, none⟩) 108 108])) (hl : l.length = 108) (hu : Bk w g 315 (bvs l).toArray) :
    RowsB w5 B v5 (snocV vs n (.slice (some ⟨g, 0, none⟩) 108 108)) (Ls ++ [l]) := by
  have key : ∀ {g : Nat} {cs : Array Value}, Bk w g 315 cs → Bk w5 g 315 cs := fun {g cs} hk => hk.grown hg fun e => own_notB h.own e.symm hk rfl (by decide)
  refine ⟨?_, fun i l' hl' => ?_⟩
  · have e : (List.range n).map (snocV vs n (.slice (some ⟨g, 0, none⟩) 108 108)) = (List.range n).map vs := List.map_congr_left fun i hi => if_neg (by have := List.mem_range.1 hi; omega)
    have e2 : [n].map (snocV vs n (.slice (some ⟨g, 0, none⟩) 108 108)) = [.slice (some ⟨g, 0, none⟩) 108 108] := by
      show [snocV vs n _ n] = [_]
      rw [snocV, if_pos rfl]
    rw [List.length_append, List.length_singleton, hn, List.range_succ, List.map_append, e, e2]
    exact ho
  · unfold snocV
    by_cases e : i = n
    · subst e
      rw [if_pos rfl]
      rw [List.getElem?_append_right (by omega), hn, Nat.sub_self] at hl'
      injection hl' with hl'
      subst hl'
      exact ⟨g, rfl, hl, key hu⟩
    · rw [if_neg e]
      have hi : i < n := by
        have := (List.getElem?_eq_some_iff.1 hl').1
        rw [List.length_append, List.length_singleton, hn] at this
        omega
      rw [List.getElem?_append_left (by omega)] at hl'
      obtain ⟨g', h1, h2, h3⟩ := h.row i l' hl'
      exact ⟨g', h1, h2, key h3⟩
theorem RowsB.rd {w : World} {B : Nat} {v : Value} {vs : Nat → Value} {Ls : List (List UInt8)} (h : RowsB w B v vs Ls) : RowsRd w B v vs Ls := ⟨h.own, fun i l hl => by
  obtain ⟨g, h1, h2, h3⟩ := h.row i l hl
  refine ⟨some ⟨g, 0, none⟩, 108, by rw [h1, h2], by rw [bvs_len], by omega, by omega, fun k u hu => ⟨_, rfl, h3.lt, ?_⟩⟩
  rw [Addr.add_none, Nat.zero_add, Bk.cell h3]
  simpa using hu⟩
theorem run_arrAt (w : World) (g cap : Nat) : (Instr.arrayAt 315 (.slice (some ⟨g, 0, none⟩) 108 cap)).run Tryz.prog w = .ok (.pointer (some ⟨g, 0, none⟩)) w := by
  simp [Instr.arrayAt, Sem.run_bind, run_underlying Tryz.underlying315]
def frmS (k s gen : Nat) (Ls : List (List UInt8)) (d : Nat) : Frm := ⟨3, d, s, gen, mixG 108 (rowC k d) Ls⟩
theorem frmS_len (k s gen : Nat) (Ls : List (List UInt8)) (d : Nat) : (frmS k s gen Ls d).data.length = 108 := mixG_len _ _ _
attribute [local go_sem ↓] ldCf_eq ldK_eq stK_eq bsF_eq bdF_eq
set_option maxRecDepth 100000 in
set_option maxHeartbeats 4000000 in
theorem sFrames_any {c : CfgM} (hc : c.right = true) {k n s gen : Nat} (hk : c.k = (k : Int)) (hn : c.n = (n : Int)) {w : World} {A : Option Addr} {cp : Nat} {Ls : List (List UInt8)} (hL : BlkRd w A Ls) (hl : Ls.length = k) :
    Calls Tryz.prog 147 #[.agg #[.int .i64 c.id, .int .i64 c.k, .int .i64 c.n, .int .i64 c.stripes, .int .i64 c.slots], .int .i64 s, .int .i64 gen, .slice A k cp] w fun e w' => ∃ v, e = .returned (.tuple #[v, .nilIface]) ∧ OwnF w' w.heap.size v ((List.range n).map (frmS k s gen Ls)) ∧ Below w.heap.size w w' := by
  have hin := CfgM.right_in hc
  have hb1 : 1 ≤ k := by have := hin.k1; omega
  have hb2 : k ≤ n := by have := hin.k2; omega
  have hb3 : n ≤ 8 := by have := hin.n2; omega
  have HNw := Lib.hid (codeNew_any k n hb1 hb2 hb3)
  have hk0 := Bk.made w 25 #[.int .i64 c.id, .int .i64 c.k, .int .i64 c.n, .int .i64 c.stripes, .int .i64 c.slots]
  have hb0 := below_new w (.cells #[.int .i64 c.id, .int .i64 c.k, .int .i64 c.n, .int .i64 c.stripes, .int .i64 c.slots] 25)
  rw [hk, hn] at hk0 hb0 ⊢
  have hz := zero_blk
  obtain ⟨ii, hi0, hz0, hs0, hy0⟩ := info_parts info_bs
  have HI := Lib.hid hi0
  have HZ := Lib.hid hz0
  have HSz := Lib.hid hs0
  have HY := Lib.hid hy0
  clear hi0 hz0 hs0 hy0
  clear hin hk hn hc
  go_enter Tryz.func147, Tryz.ntmps147
  go_wp2_with fail
  have hL0 := hL.ext hb0
  generalize w.alloc (.cells #[.int .i64 c.id, .int .i64 k, .int .i64 n, .int .i64 c.stripes, .int .i64 c.slots] 25) = W1 at hk0 hb0 hL0 ⊢
  with_reducible refine (HNw.out _).mono ?_
  rintro er w1 ⟨x, rfl, hCA, hb1'⟩
  have HCA := Lib.hid hCA
  have HB1 := Lib.hid (hb0.trans (below_le hb0.size hb1'))
  have HL1 := Lib.hid (hL0.ext hb1')
  have HHl := Lib.hid hl
  clear hL hL0 hk0 hb0 hb1' hCA hl HNw
  go_wp2_with fail
  go_loopw [12, 32] (fun v i wr => ∃ (j : Nat) (vs : Nat → Value), j ≤ k ∧ i = .int .i64 j ∧ Hid (RowsB wr w1.heap.size v vs (Ls.take j)) ∧ Hid (Below w1.heap.size w1 wr)) (fun _ i _ => k - (intOf i).toNat)
  case atStart => exact ⟨0, fun _ => .nilIface, Nat.zero_le _, rfl, RowsB.nil _ _ _, Below.refl _ _⟩
  case round =>
    obtain ⟨j, vs, hj, rfl, hv, hB⟩ := hrel
    have htl : (Ls.take j).length = j := by rw [List.length_take, HHl.out]; omega
    have hop := hv.out.own
    rw [htl] at hop
    obtain ⟨A2, c2, hA2⟩ := own_open hop
    subst hA2
    have HOp := Lib.hid hop
    have HTl := Lib.hid htl
    clear hop htl
    by_cases hlt : j < k
    · have hi : (j : Int) < k := by omega
      obtain ⟨l, hl⟩ : ∃ l, Ls[j]? = some l := ⟨_, List.getElem?_eq_getElem (by rw [HHl.out]; exact hlt)⟩
      have HLx := HL1.out.ext hB.out
      obtain ⟨gA, rfl, hgA, hcell⟩ := HLx.row j l hl
      have hl108 : l.length = 108 := HL1.out.len l (List.mem_of_getElem? hl)
      have hld := ldK_mid hl108 hcell
      have hst := stK_new wr blank l blank_len hl108
      have hb2 := below_new wr (.cells (bvs l).toArray 315)
      have hk2 := Bk.made wr 315 (bvs l).toArray
      have HV2 := Lib.hid (hv.out.ext hb2)
      have HB2 := Lib.hid (hB.out.trans (below_le hB.out.size hb2))
      have HO2 := Lib.hid (own_turned (P := fun _ => False) HOp.out (Turned.of_below hb2) (fun _ _ => id))
      have hG2 : Hid (w1.heap.size ≤ wr.heap.size) := hB.out.size
      obtain ⟨w2, hw2⟩ : ∃ w2, wr.alloc (.cells (bvs l).toArray 315) = w2 := ⟨_, rfl⟩
      rw [hw2] at hst hk2 HV2 HB2 HO2
      have HTk : Hid (Ls.take (j + 1) = Ls.take j ++ [l]) := by
        show _ = _
        rw [List.take_add_one, hl]
        rfl
      have HK2 := Lib.hid hk2
      have HL108 := Lib.hid hl108
      have hb3' := below_new w2 (.cells #[.slice (some ⟨wr.heap.size, 0, none⟩) 108 108] 26)
      have HV3 := Lib.hid (HV2.out.ext hb3')
      have HK3 := Lib.hid (hk2.ext hb3')
      have HB3 := Lib.hid (HB2.out.trans (below_le HB2.out.size hb3'))
      have HO3 := Lib.hid (own_turned (P := fun _ => False) HO2.out (Turned.of_below hb3') (fun _ _ => id))
      clear hl HLx hcell hb2 hw2 hv hB hk2 hl108 hb3'
      go_wp2_with (first | (at_builtin; go_loud (refine wpList_append_gen rfl (.tmp 36) (.tmp 38) 58 rfl 26 ii _ 1 24 Tryz.underlying58 HI.out HZ.out HSz.out HY.out rfl (by omega) w1.heap.size w1 _ j _ rfl HO3.out ⟨w2.heap.size, 0, none⟩ 1 1 [.slice (some ⟨wr.heap.size, 0, none⟩) 108 108] rfl rfl (cell_new1 _ _ _) (fun u hu => by rw [List.mem_singleton] at hu; subst hu; rfl) (by unfold maxLen; omega) (by omega) HB3.out HB3.out.size ?_); intro A5 c5 w5 ho5 hg5 hob5 hb5 hs5) | fail)
      exact ⟨⟨j + 1, _, by omega, by go_num, by rw [HTk.out]; exact HV3.out.snoc HTl.out hg5.out ho5.out HL108.out HK3.out, hb5⟩, by simp [intOf]; omega⟩
    · have hjk : j = k := by omega
      subst hjk
      have hi : ¬ (j : Int) < j := by omega
      have HCA2 := Lib.hid (HCA.out.ext hB.out)
      have hR := hv.out.rd
      rw [List.take_of_length_le (by rw [HHl.out]; omega)] at hR
      have HEn := Lib.hid (encode_any HCA2.out hR HL1.out.len HHl.out hb1 hb2 hb3 (by omega) (by omega))
      clear hR
      go_wp2_with fail
      with_reducible refine HEn.out.mono ?_
      rintro er w2 ⟨u, rfl, ⟨us, hus⟩, hb4⟩
      have HU := Lib.hid hus
      have HB2 := Lib.hid ((HB1.out.trans (below_le HB1.out.size hB.out)).trans (below_le (Nat.le_trans HB1.out.size hB.out.size) hb4))
      obtain ⟨A3, c3, hA3, _⟩ := hus.open_
      rw [List.length_map, List.length_range] at hA3
      subst hA3
      clear hus hb4 hv hB HCA2 HEn HOp HTl
      go_wp2_with fail
      obtain ⟨fi, fi0, fz0, fs0, fy0⟩ := info_parts info_frm
      have FI := Lib.hid fi0
      have FZ := Lib.hid fz0
      have FSz := Lib.hid fs0
      have FY := Lib.hid fy0
      clear fi0 fz0 fs0 fy0
      have HWo : Hid (w.heap.size ≤ w2.heap.size) := HB2.out.size
      go_loopw [16, 52] (fun v i wi => ∃ d : Nat, d ≤ n ∧ i = .int .i64 d ∧ Hid (OwnF wi w2.heap.size v ((List.range d).map (frmS j s gen Ls))) ∧ Hid (Below w2.heap.size w2 wi)) (fun _ i _ => n - (intOf i).toNat)
      case atStart => exact ⟨0, Nat.zero_le _, rfl, World.ownsRow_nil _ _ _ _, Below.refl _ _⟩
      case round =>
        obtain ⟨d, hd, rfl, hv, hB⟩ := hrel
        have hop := hv.out
        unfold OwnF at hop
        rw [List.length_map, List.length_range] at hop
        obtain ⟨A4, c4, hA4⟩ := own_open hop
        subst hA4
        have HOp := Lib.hid hop
        clear hop
        by_cases hlt2 : d < n
        · have hi2 : (d : Int) < n := by omega
          have hRx := HU.out.ext hB.out
          obtain ⟨A', c', hA', hcell⟩ := hRx.open_
          injection hA' with e1 e2 e3
          clear e2 e3
          subst e1
          obtain ⟨gA, rfl, _, hgA, hcl⟩ := hcell d (by rw [List.length_map, List.length_range]; exact hlt2)
          have hDl : (mixG 108 (rowC j d) Ls).length = 108 := mixG_len _ _ _
          obtain ⟨gp, cpp, hus, _, hgp, hcp, hpc⟩ := ownB_cells (hRx.row d (mixG 108 (rowC j d) Ls) (by rw [List.getElem?_map, List.getElem?_range hlt2]; rfl)) (by rw [hDl]; omega)
          obtain ⟨D, hD⟩ : ∃ D, mixG 108 (rowC j d) Ls = D := ⟨_, rfl⟩
          rw [hD] at hus hpc hDl hcp
          rw [hDl] at hus hpc hcp
          rw [hus] at hcl
          have hld := ldK_mid hDl hpc
          have harr := run_arrAt wr gp cpp
          have hbd := bdF_five 3 d s gen D hDl
          have hfl : (Frm.mk 3 d s gen D).data.length = 108 := hDl
          have hbs := bsF_run hfl wr
          have hbn := below_new wr (.cells (Frm.cells ⟨3, d, s, gen, D⟩) 273)
          have HO3 := Lib.hid (own_turned (P := fun _ => False) HOp.out (Turned.of_below hbn) (fun _ _ => id))
          have HB3 := Lib.hid (hB.out.trans (below_le hB.out.size hbn))
          have HCn := Lib.hid (cells_newF wr ⟨3, d, s, gen, D⟩)
          have HFn : Hid (frmS j s gen Ls d = ⟨3, d, s, gen, D⟩) := by
            show _ = _
            unfold frmS
            rw [hD]
          have HFl : Hid ((Frm.cells ⟨3, d, s, gen, D⟩).toList.length = 1 * 112) := by
            show _ = _
            rw [Array.length_toList, Frm.size hfl]
          obtain ⟨w4, hw4⟩ : ∃ w4, wr.alloc (.cells (Frm.cells ⟨3, d, s, gen, D⟩) 273) = w4 := ⟨_, rfl⟩
          rw [hw4] at hbs HO3 HB3 HCn
          obtain ⟨F, hF⟩ : ∃ F, Frm.cells ⟨3, d, s, gen, D⟩ = F := ⟨_, rfl⟩
          have HOne : Hid (∀ u ∈ F.toList, u.oneCell' = true) := by rw [← hF]; exact frm_one _
          have HFF := Lib.hid hF
          rw [hF] at hbd hbs HCn HFl
          clear hfl hD hF hw4 hbn hRx hcell hv hpc hus hgp hB
          go_wp2_with (first | (at_builtin; go_loud (refine wpList_append_gen rfl (.tmp 57) (.tmp 65) 266 rfl 273 fi _ 112 144 Tryz.underlying266 FI.out FZ.out FSz.out FY.out zf_size (by omega) w2.heap.size w2 _ d _ rfl HO3.out ⟨wr.heap.size, 0, none⟩ 1 1 F.toList rfl HFl.out HCn.out HOne.out (by unfold maxLen; omega) (by omega) HB3.out HB3.out.size ?_); intro A5 c5 w5 ho5 hg5 hob5 hb5 hs5) | fail)
          have HN5 : Hid (OwnF w5 w2.heap.size (.slice A5 (d + 1) c5) ((List.range (d + 1)).map (frmS j s gen Ls))) := by
            have h := ho5.out
            show w5.ownsRow _ _ _ _ (List.map _ _).length _
            rw [List.length_map, List.length_range, List.range_succ, List.map_append, List.flatMap_append]
            rw [← HFF.out] at h
            simpa [HFn.out] using h
          exact ⟨⟨d + 1, by omega, by go_num, HN5, hb5⟩, by simp [intOf]; omega⟩
        · have hdn : d = n := by omega
          subst hdn
          have hi2 : ¬ (d : Int) < d := by omega
          go_wp2_with fail
          go_ret2
          exact ⟨_, rfl, own_base hv.out HWo.out, HB2.out.trans (below_le HWo.out hB.out)⟩
end Go.Proofs.YtkdlofgfkfhofaaGreatDoor

/-
  stripe: Put, on a good rack.
-/
namespace Go.Proofs.YtkdlofgfkfhofaaGreatDoor
open Go.RowKit Go.Maps

def OwnFs (o : Nat → Option Nat) (w : World) (v : Value) (L : List Frm) : Prop := (∃ B, OwnF w B v L) ∧ ∀ g, v.ownBlock = some g → o g = none
theorem OwnFs.step {w w' : World} {o o' : Nat → Option Nat} {r n S : Nat} {v : Value} {l : List Frm} {W : Nat → Nat → List UInt8} (h : OwnFs o w v l) (hs : StoP w o r n S W o' w') : OwnFs o' w' v l := by
  obtain ⟨⟨B, h1⟩, h2⟩ := h
  exact ⟨⟨B, own_turned h1 hs.turned fun g e hx => hx (h2 g e)⟩, fun g e => hs.no (World.ownsRow.lt h1 g e).2 (h2 g e)⟩
theorem OwnFs.ext {w w' : World} {o : Nat → Option Nat} {v : Value} {l : List Frm} (h : OwnFs o w v l) (hb : Below w.heap.size w w') : OwnFs o w' v l := by
  obtain ⟨⟨B, h1⟩, h2⟩ := h
  exact ⟨⟨B, own_turned (P := fun _ => False) h1 (Turned.of_below hb) (fun _ _ => id)⟩, h2⟩
theorem OwnFs.turned {w w' : World} {o : Nat → Option Nat} {v : Value} {l : List Frm} (h : OwnFs o w v l) (ht : Turned (fun b => o b ≠ none) w w') : OwnFs o w' v l := by
  obtain ⟨⟨B, h1⟩, h2⟩ := h
  exact ⟨⟨B, own_turned h1 ht fun g e hx => hx (h2 g e)⟩, h2⟩
theorem OwnFs.get {w : World} {o : Nat → Option Nat} {A : Option Addr} {m c k : Nat} {L : List Frm} {f : Frm} (h : OwnFs o w (.slice A m c) L) (hl : ∀ f ∈ L, f.data.length = 108) (hk : L[k]? = some f) : ∃ g, A = some ⟨g, 0, none⟩ ∧ (ldFr (.pointer (some ⟨g, k * 112, none⟩))).run Tryz.prog w = .ok (.agg f.cells) w := by
  obtain ⟨⟨B, h1⟩, _⟩ := h
  obtain ⟨A', c', e, h2⟩ := h1.open_ hl
  injection e with e1 e2 e3
  clear e2 e3
  subst e1
  obtain ⟨g, e4, _, _, h3⟩ := h2 k f hk
  exact ⟨g, e4, ldF_mid (hl f (List.mem_of_getElem? hk)) h3⟩
/-- a stripe's sectors of the first disks -/
def strW (W : Nat → Nat → List UInt8) (sec d : Nat) (F : Nat → Frm) : Nat → Nat → List UInt8 := fun j t => if j < d ∧ t = sec then putF (F j) else W j t
theorem strW_step (W : Nat → Nat → List UInt8) (sec d : Nat) (F : Nat → Frm) (a b : Nat) : putS (strW W sec d F) d sec (putF (F d)) a b = strW W sec (d + 1) F a b := by
  unfold putS strW
  by_cases h : a = d ∧ b = sec
  · obtain ⟨rfl, rfl⟩ := h
    rw [if_pos ⟨rfl, rfl⟩, if_pos ⟨by omega, rfl⟩]
  · rw [if_neg h]
    by_cases h2 : a < d ∧ b = sec
    · rw [if_pos h2, if_pos (by omega)]
    · rw [if_neg h2, if_neg (by omega)]
attribute [local go_sem ↓] ldCf_eq ldFr_eq
set_option maxRecDepth 100000 in
set_option maxHeartbeats 4000000 in
theorem sPut_any {w : World} {o : Nat → Option Nat} {r n S : Nat} {W : Nat → Nat → List UInt8} (h : StoAt w o r n S W) {c : CfgM} (hc : c.At n S) {k s gen sec : Nat} (hk : c.k = (k : Int)) (hs : (s : Int) < c.stripes) (hsc : sectorS c s = (sec : Int)) {A : Option Addr} {cp : Nat} {Ls : List (List UInt8)} (hL : BlkRd w A Ls) (hl : Ls.length = k) (hg1 : 1 ≤ gen) (hg2 : gen ≤ 1152921504606846976) (hfr : ∀ d, d < n → (frmS k s gen Ls d).right = true) :
    Calls Tryz.prog 98 #[.pointer (some ⟨r, 0, none⟩), .agg #[.int .i64 c.id, .int .i64 c.k, .int .i64 c.n, .int .i64 c.stripes, .int .i64 c.slots], .int .i64 s, .int .i64 gen, .slice A k cp] w fun e w' => e = .returned .nilIface ∧ ∃ o', StoP w o r n S (strW W sec n (frmS k s gen Ls)) o' w' := by
  have hk0 := Bk.made w 25 #[.int .i64 c.id, .int .i64 c.k, .int .i64 c.n, .int .i64 c.stripes, .int .i64 c.slots]
  have hb0 := below_new w (.cells #[.int .i64 c.id, .int .i64 c.k, .int .i64 c.n, .int .i64 c.stripes, .int .i64 c.slots] 25)
  have hin := CfgM.right_in hc.right
  have hn8 := h.lt
  have hsS : sec < S := by
    have h2 := hc.secE
    unfold CfgM.sectors at h2
    unfold sectorS at hsc
    omega
  have HKn := Lib.hid (fun v => fun hv : Below w.heap.size w v => sKnown_any (h.ext hv) hc hs)
  have HSec : Hid (∀ v, Calls Tryz.prog 148 #[.agg #[.int .i64 c.id, .int .i64 c.k, .int .i64 c.n, .int .i64 c.stripes, .int .i64 c.slots], .int .i64 s] v fun e w' => e = .returned (.int .i64 sec) ∧ Below v.heap.size v w') := fun v => by
    have h := sSector_any hin hs v
    rw [hsc] at h
    exact h
  have HFs := Lib.hid (fun v => fun hv : Below w.heap.size w v => sFrames_any (s := s) (gen := gen) (cp := cp) hc.right hk hc.nE (hL.ext hv) hl)
  have HP0 := Lib.hid ((StoP.refl h).ext hb0)
  have HC0 := Lib.hid (show Own1 o (w.alloc (.cells #[.int .i64 c.id, .int .i64 c.k, .int .i64 c.n, .int .i64 c.stripes, .int .i64 c.slots] 25)) w.heap.size 25 #[.int .i64 c.id, .int .i64 c.k, .int .i64 c.n, .int .i64 c.stripes, .int .i64 c.slots] from ⟨hk0, h.newO (Nat.le_refl _)⟩)
  have HB0 := Lib.hid hb0
  have HK := Lib.hid hk
  have HSS := Lib.hid hsS
  have HNew := Lib.hid (fun g : Nat => fun hg : w.heap.size ≤ g => h.newO hg)
  clear hk0 hb0 hin hsc hs hc h hk hL hl hsS
  go_enter Tryz.func98, Tryz.ntmps98
  have hld0 := ldCf_bk HC0.out.1
  go_wp2_with fail
  with_reducible refine (HKn.out _ HB0.out).mono ?_
  rintro er w1 ⟨rfl, hb1⟩
  have q1 : ¬ (gen : Int) < 1 := by omega
  have q2 : ¬ (1152921504606846976 : Int) < gen := by omega
  have q3 : (k : Int) = c.k := HK.out.symm
  have HB1 := Lib.hid (HB0.out.trans (below_le HB0.out.size hb1))
  have HC1 := Lib.hid (HC0.out.ext hb1)
  have HP1 := Lib.hid (HP0.out.ext hb1)
  have ck : w1.cell? ⟨w.heap.size, 1, none⟩ = some (.int .i64 c.k) := HC1.out.1.cell 1
  have hld1 := ldCf_bk HC1.out.1
  clear hb1 hld0 HB0 HC0 HP0
  go_wp2_with fail
  with_reducible refine (HFs.out _ HB1.out).mono ?_
  rintro er w2 ⟨v2, rfl, ho2, hb2⟩
  have HB2 := Lib.hid (HB1.out.trans (below_le HB1.out.size hb2))
  have HC2 := Lib.hid (HC1.out.ext hb2)
  have HP2 := Lib.hid (HP1.out.ext hb2)
  have HF2 : Hid (OwnFs o w2 v2 ((List.range n).map (frmS k s gen Ls))) := ⟨⟨_, ho2⟩, fun g e => HNew.out g (Nat.le_trans HB1.out.size (World.ownsRow.lt ho2 g e).1)⟩
  obtain ⟨AF, cF, hAF⟩ := own_open (show w2.ownsRow w1.heap.size 273 112 v2 _ _ from ho2)
  rw [List.length_map, List.length_range] at hAF
  subst hAF
  clear ho2 hb2 hld1 ck q1 q2 q3 HB1 HC1 HP1
  go_wp2_with fail
  with_reducible refine (stoOnline HP2.out.at_).mono ?_
  rintro er w3 ⟨v3, rfl, hv3, hb3⟩
  have HV3 : Hid (OwnIs o w3 v3 (upto n)) := ⟨⟨_, hv3⟩, fun g e => HNew.out g (Nat.le_trans HB2.out.size (World.ownsRow.lt hv3 g e).1)⟩
  obtain ⟨A3, cp3, hA3, hcl⟩ := hv3.open_
  rw [upto_len] at hA3
  subst hA3
  have HC3 := Lib.hid (HC2.out.ext hb3)
  have HP3 := Lib.hid (HP2.out.ext hb3)
  have HF3 := Lib.hid (HF2.out.ext hb3)
  clear hcl hv3 hb3 HC2 HP2 HF2 HB2
  go_wp2_with fail
  clear HNew HKn HFs
  obtain ⟨F, hF⟩ : ∃ F, frmS k s gen Ls = F := ⟨_, rfl⟩
  have HFl : Hid (∀ d, (F d).data.length = 108) := by rw [← hF]; exact frmS_len k s gen Ls
  rw [hF] at hfr HF3
  have HRi := Lib.hid hfr
  have HFF := Lib.hid hF
  have HFm : Hid (∀ f ∈ (List.range n).map F, f.data.length = 108) := fun f hf => by
    obtain ⟨d, _, rfl⟩ := List.mem_map.1 hf
    exact HFl.out d
  clear hfr hF
  go_loopw [58] (fun i wr => ∃ (j : Nat) (o1 : Nat → Option Nat), j ≤ n ∧ i = .int .i64 j ∧ Hid (StoP w o r n S (strW W sec j F) o1 wr) ∧ Hid (Own1 o1 wr w.heap.size 25 #[.int .i64 c.id, .int .i64 c.k, .int .i64 c.n, .int .i64 c.stripes, .int .i64 c.slots]) ∧ Hid (OwnFs o1 wr (.slice AF n cF) ((List.range n).map F)) ∧ Hid (OwnIs o1 wr (.slice A3 n cp3) (upto n))) (fun i _ => n - (intOf i).toNat)
  case atStart => exact ⟨0, o, Nat.zero_le _, rfl, HP3.out.same (fun j t _ => by unfold strW; rw [if_neg (by omega)]), HC3, HF3, HV3⟩
  case round =>
    obtain ⟨j, o1, hj, rfl, hP, hC, hX, hV⟩ := hrel
    clear HC3 HF3 HV3 HP3
    by_cases hlt : j < n
    · have hi : (j : Int) < n := by omega
      obtain ⟨g, rfl, hg⟩ := hV.out.get hlt
      obtain ⟨gF, rfl, hgF⟩ := hX.out.get HFm.out (k := j) (f := F j) (by rw [List.getElem?_map, List.getElem?_range hlt]; rfl)
      have HPm := Lib.hid (putF_any (HFl.out j) (HRi.out j hlt))
      have FS : Hid (∀ v, Turned (fun b => o1 b ≠ none) wr v → (ldCf (.pointer (some ⟨w.heap.size, 0, none⟩))).run Tryz.prog v = .ok (.agg #[.int .i64 c.id, .int .i64 c.k, .int .i64 c.n, .int .i64 c.stripes, .int .i64 c.slots]) v ∧ (ldFr (.pointer (some ⟨gF, j * 112, none⟩))).run Tryz.prog v = .ok (.agg (F j).cells) v) := fun v hv => ⟨ldCf_bk (hC.out.1.turned hv fun h => h hC.out.2), by
        obtain ⟨g', e, h⟩ := (hX.out.turned hv).get HFm.out (k := j) (f := F j) (by rw [List.getElem?_map, List.getElem?_range hlt]; rfl)
        injection e with e
        injection e with e
        rw [e]
        exact h⟩
      have F0 : Hid (Turned (fun b => o1 b ≠ none) wr wr.drew) := Turned.of_below (below_drew1 (Below.refl _ _))
      have B0 : Hid (Below wr.heap.size wr wr.drew) := below_drew1 (Below.refl _ _)
      have HWr : Hid (∀ v g, Below wr.heap.size wr v → wr.heap.size ≤ g → RdB v (some ⟨g, 0, none⟩) 128 128 (putF (F j)) → Calls Tryz.prog 95 #[.pointer (some ⟨r, 0, none⟩), .int .i64 j, .int .i64 sec, .slice (some ⟨g, 0, none⟩) 128 128] v fun e w' => e = .returned .nilIface ∧ ∃ o', StoP v o1 r n S (putS (strW W sec j F) j sec (putF (F j))) o' w') := fun v g hv hg hr =>
        stoWrite (hP.out.at_.ext hv) hlt HSS.out (putF_len (HFl.out j) (HRi.out j hlt)) hr (hP.out.at_.newO hg)
      have HG := Lib.hid hg
      clear hgF
      go_upto_region 9 with fail
      clear hg
      go_region_held3 (fun v => (ldCf (.pointer (some ⟨w.heap.size, 0, none⟩))).run Tryz.prog v = .ok (.agg #[.int .i64 c.id, .int .i64 c.k, .int .i64 c.n, .int .i64 c.stripes, .int .i64 c.slots]) v ∧ (ldFr (.pointer (some ⟨gF, j * 112, none⟩))).run Tryz.prog v = .ok (.agg (F j).cells) v) (first | exact FS.out _ F0.out | exact FS.out _ T4.out | exact FS.out _ T6.out | exact FS.out _ T7.out | fail) (first | (go_at_call 148; go_loud ((with_reducible refine (HSec.out _).mono ?_); rintro er w4 ⟨rfl, hb4⟩; have T4 := Lib.hid (F0.out.then_below hb4); have B4 := Lib.hid (B0.out.trans (below_le B0.out.size hb4)); clear hb4)) | (go_at_call 149; go_loud ((with_reducible refine (HPm.out _).mono ?_); rintro er w6 ⟨g6, rfl, hg6, hr6, hb6⟩; have T6 := Lib.hid (T4.out.then_below hb6); have B6 := Lib.hid (B4.out.trans (below_le B4.out.size hb6)); have R6 := Lib.hid hr6; have G6 : Hid (wr.heap.size ≤ g6) := Nat.le_trans B4.out.size hg6; clear hg6 hr6 hb6)) | (go_at_call 95; go_loud ((with_reducible refine (HWr.out _ _ B6.out G6.out R6.out).mono ?_); rintro er w7 ⟨rfl, o7, hp7⟩; have P7 := Lib.hid (StoP.from_ B6.out hp7); have T7 := Lib.hid (P7.out.turned); clear hp7)) | fail)
      go_wp2_with fail
      exact ⟨⟨j + 1, o7, by omega, by go_num, (hP.out.then P7.out).same (fun a b _ => strW_step W sec j F a b), hC.out.step P7.out, hX.out.step P7.out, hV.out.step P7.out⟩, by simp [intOf]; omega⟩
    · have hjn : j = n := by omega
      subst hjn
      have hi : ¬ (j : Int) < j := by omega
      go_wp2_with fail
      clear hC hX hV
      with_reducible refine (stoOnline hP.out.at_).mono ?_
      rintro er w2 ⟨v2, rfl, hv2, hb2⟩
      have hv2' : OwnIs o1 w2 v2 (upto j) := ⟨⟨_, hv2⟩, fun g e => hP.out.at_.newO (World.ownsRow.lt hv2 g e).1⟩
      obtain ⟨A2, cp2, hA, hcl⟩ := hv2.open_
      rw [upto_len] at hA
      subst hA
      have HV2 := Lib.hid hv2'
      have HP2 := Lib.hid (hP.out.ext hb2)
      clear hcl hv2 hv2' hb2 hP hi
      go_wp2_with fail
      go_loopw [82] (fun i wr => ∃ (m : Nat) (o2 : Nat → Option Nat), m ≤ j ∧ i = .int .i64 m ∧ Hid (StoP w o r j S (strW W sec j F) o2 wr) ∧ Hid (OwnIs o2 wr (.slice A2 j cp2) (upto j))) (fun i _ => j - (intOf i).toNat)
      case atStart => exact ⟨0, o1, Nat.zero_le _, rfl, HP2, HV2⟩
      case round =>
        obtain ⟨m, o2, hm, rfl, hP, hV⟩ := hrel
        clear HP2 HV2
        by_cases hmj : m < j
        · have hi : (m : Int) < j := by omega
          obtain ⟨g, rfl, hg⟩ := hV.out.get hmj
          go_wp2_with fail
          with_reducible refine (stoFlush hP.out.at_ hmj).mono ?_
          rintro er w3 ⟨rfl, o3, hp3⟩
          have HV3 := Lib.hid (hV.out.step hp3)
          have HP3 := Lib.hid (hP.out.then hp3)
          clear hp3
          go_wp2_with fail
          exact ⟨⟨m + 1, o3, by omega, by go_num, HP3, HV3⟩, by simp [intOf]; omega⟩
        · have hmj2 : m = j := by omega
          subst hmj2
          have hi : ¬ (m : Int) < m := by omega
          go_wp2_with fail
          go_ret
          exact ⟨rfl, o2, by rw [HFF.out]; exact hP.out⟩
end Go.Proofs.YtkdlofgfkfhofaaGreatDoor
