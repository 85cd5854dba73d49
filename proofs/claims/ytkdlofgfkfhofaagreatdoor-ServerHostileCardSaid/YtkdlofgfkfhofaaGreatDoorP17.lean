import Derived.Test.YtkdlofgfkfhofaaGreatDoorP16
import Derived.KernelRfl
/-
  journal: Slot (a blank one).
-/
namespace Go.Proofs.YtkdlofgfkfhofaaGreatDoor
open Go.RowKit Go.Maps

theorem OwnF.rd {w : World} {B n : Nat} {A : Option Addr} {c : Nat} {f : Frm} (h : OwnF w B (.slice A n c) (List.replicate n f)) (hl : f.data.length = 108) : RdFr w A n f := fun j hj => by
  obtain ⟨A', c', e, h2⟩ := h.open_ (fun x hx => by rw [List.eq_of_mem_replicate hx]; exact hl)
  injection e with e1 e2 e3
  subst e1
  obtain ⟨g, e4, _, h5, h6⟩ := h2 j f (by rw [List.getElem?_replicate, if_pos hj])
  exact ⟨g, e4, h5, h6⟩
theorem info_sfrm : (Tryz.prog.info? 266).map (fun i => (i.zero, i.size, i.bytes)) = some (some (.slice none 0 0), 1, 24) := by kernel_rfl
/-- rows of frames -/
structure LlAt (w : World) (B m n : Nat) (v : Value) (vs : Nat → Value) : Prop where
  row : w.ownsRow B 266 1 v m ((List.range m).map vs)
  frm : ∀ i, i < m → OwnF w 0 (vs i) (List.replicate n (blkF i))
theorem LlAt.nil (w : World) (B n : Nat) (vs : Nat → Value) : LlAt w B 0 n (.slice none 0 0) vs := ⟨World.ownsRow_nil _ _ _ _, fun _ h => absurd h (by omega)⟩
theorem LlAt.ext {w w' : World} {B m n : Nat} {v : Value} {vs : Nat → Value} (h : LlAt w B m n v vs) (hb : Below w.heap.size w w') : LlAt w' B m n v vs :=
  ⟨own_turned (P := fun _ => False) h.row (Turned.of_below hb) (fun _ _ => id), fun i hi => own_turned (P := fun _ => False) (h.frm i hi) (Turned.of_below hb) (fun _ _ => id)⟩
theorem LlAt.snoc {w w' : World} {B m n : Nat} {v v' u : Value} {vs : Nat → Value} (h : LlAt w B m n v vs) (hu : OwnF w 0 u (List.replicate n (blkF m))) (hg : w.grownBy w' v.ownBlock) (ho : w'.ownsRow B 266 1 v' (m + 1) ((List.range m).map vs ++ [u])) : LlAt w' B (m + 1) n v' fun i => if i = m then u else vs i := by
  have hT : Turned (fun b => v.ownBlock = some b) w w' := Turned.of_grown hg (fun k e => e)
  have key : ∀ {u : Value} {L : List Frm}, OwnF w 0 u L → OwnF w' 0 u L := fun {u L} hu => own_turned hu hT fun g e hq => by
    rcases hu.2 with ⟨h1, h2⟩ | ⟨g', cap, cur, h1, h2, h3, _⟩
    · rw [h1] at e
      cases e
    · rw [h1] at e
      injection e with e
      subst e
      exact own_notT h.row hq h3 (by decide)
  refine ⟨?_, fun i hi => ?_⟩
  · have e : (List.range (m + 1)).map (fun i => if i = m then u else vs i) = (List.range m).map vs ++ [u] := by
      rw [List.range_succ, List.map_append, List.map_cons, List.map_nil, if_pos rfl]
      congr 1
      refine List.map_congr_left fun i hi => ?_
      rw [if_neg (by have := List.mem_range.1 hi; omega)]
    rw [e]
    exact ho
  · by_cases e : i = m
    · subst e
      rw [if_pos rfl]
      exact key hu
    · rw [if_neg e]
      exact key (h.frm i (by omega))
theorem LlAt.rd {w : World} {B m n : Nat} {v : Value} {vs : Nat → Value} (h : LlAt w B m n v vs) : ∃ A c, v = .slice A m c ∧ RdLl w A m n := by
  rcases h.row.2 with ⟨h1, h2⟩ | ⟨g, cap, cur, h1, h2, h3, h4, h5, h6, h7⟩
  · exact ⟨none, 0, by rw [h1, h2], fun i hi => by omega⟩
  · refine ⟨_, cap, h1, fun i hi => ?_⟩
    have hf := h.frm i hi
    obtain ⟨Ai, ci, e, _⟩ := hf.open_ (fun x hx => by rw [List.eq_of_mem_replicate hx]; exact blkF_len i)
    rw [List.length_replicate] at e
    have hf2 := hf
    rw [e] at hf2
    refine ⟨g, Ai, ci, rfl, (Array.getElem?_eq_some_iff.1 h3).1, ?_, hf2.rd (blkF_len i)⟩
    have hb : Bk w g 266 cur := h3
    rw [hb.cell i]
    have h8 := congrArg (fun x => x[i]?) h7
    replace h8 : (List.take (m * 1) cur.toList)[i]? = ((List.range m).map vs)[i]? := h8
    rw [List.getElem?_take, if_pos (by omega), List.getElem?_map, List.getElem?_range hi] at h8
    rw [← Array.getElem?_toList, h8, ← e]
    rfl
theorem own_low {w : World} {B n sz : Nat} {e : TypeId} {v : Value} {xs : List Value} (h : w.ownsRow B e sz v n xs) : w.ownsRow 0 e sz v n xs := by
  refine ⟨h.1, ?_⟩
  rcases h.2 with h | ⟨g, cap, cur, h1, h2, h3⟩
  · exact .inl h
  · exact .inr ⟨g, cap, cur, h1, Nat.zero_le _, h3⟩
structure SlotW (w wr : World) (c : CfgM) (j n : Nat) (l : Value) (vs : Nat → Value) : Prop where
  l : LlAt wr (w.heap.size + 2) j n l vs
  c : Bk wr w.heap.size 25 #[.int .i64 c.id, .int .i64 c.k, .int .i64 c.n, .int .i64 c.stripes, .int .i64 c.slots]
  x : Bk wr (w.heap.size + 1) 265 #[.int .i64 0, .int .i64 0, .slice none 0 0]
  low : Below w.heap.size w wr
theorem SlotW.ext {w wr w' : World} {c : CfgM} {j n : Nat} {l : Value} {vs : Nat → Value} (h : SlotW w wr c j n l vs) (hb : Below wr.heap.size wr w') : SlotW w w' c j n l vs :=
  ⟨h.l.ext hb, h.c.ext hb, h.x.ext hb, h.low.trans (below_le h.low.size hb)⟩
theorem SlotW.snoc {w w4 w5 : World} {c : CfgM} {j n : Nat} {v v' u : Value} {vs : Nat → Value} (h : SlotW w w4 c j n v vs) (hu : OwnF w4 0 u (List.replicate n (blkF j))) (hg : w4.grownBy w5 v.ownBlock) (ho : w5.ownsRow (w.heap.size + 2) 266 1 v' (j + 1) ((List.range j).map vs ++ [u])) : SlotW w w5 c (j + 1) n v' fun i => if i = j then u else vs i := by
  have hne := own_ne h.l.row
  refine ⟨h.l.snoc hu hg ho, h.c.grown hg (hne _ (by omega)), h.x.grown hg (hne _ (by omega)), h.low.grown hg h.low.size fun k hk => Nat.le_of_not_lt fun hl => hne k (by omega) hk.symm⟩
theorem results_cell_tmp3 {fn : Func} {p u u2 u3 : Tmp} {ty : TypeId} (h : fn.results = #[.cell p ty, .tmp u, .tmp u2, .tmp u3]) (tmps : Array Value) (P : Program) (w : World) :
    (results fn tmps).run P w =
      ((asAddr (tmps.getD p undef)).run P w).andThen fun a w₁ => ((loadVar ty a).run P w₁).andThen fun v w₂ => .ok (.tuple #[v, tmps.getD u undef, tmps.getD u2 undef, tmps.getD u3 undef]) w₂ := by
  simp only [results, h]
  simp [Sem.run_bind, Result.andThen]
theorem res_rec3 {fn : Func} {p u u2 u3 : Tmp} (h : fn.results = #[.cell p 265, .tmp u, .tmp u2, .tmp u3]) (tmps : Array Value) (w : World) (g : Nat) (a b : Int) (A : Option Addr) (m c : Nat) (hp : tmps.getD p undef = .pointer (some ⟨g, 0, none⟩)) (hb : Bk w g 265 #[.int .i64 a, .int .i64 b, .slice A m c]) :
    (results fn tmps).run Tryz.prog w = .ok (.tuple #[.agg #[.int .i64 a, .int .i64 b, .slice A m c], tmps.getD u undef, tmps.getD u2 undef, tmps.getD u3 undef]) w := by
  rw [results_cell_tmp3 h, hp]
  simp only [asAddr, Sem.run_pure, Result.andThen_ok, run_loadVar_row w g _ _ _ (0, 0) _ hb Tryz.underlying265 rfl size_rec]
attribute [local go_sem ↓] ldCf_eq ldFr_eq stFr_eq ldRec_eq stRec_eq
set_option maxRecDepth 100000 in
set_option maxHeartbeats 4000000 in
theorem jSlot_blank {w : World} {o : Nat → Option Nat} {r n S : Nat} {W : Nat → Nat → List UInt8} (h : StoAt w o r n S W) {c : CfgM} (hc : c.At n S) {k s sec : Nat} (hk : c.k = (k : Int)) (hs : (s : Int) < c.slots) (hsc : sec = 1 + s * k) (hW : ∀ d i, d < n → i < k → W d (sec + i) = putF (blkF i)) :
    Calls Tryz.prog 171 #[.pointer (some ⟨r, 0, none⟩), .agg #[.int .i64 c.id, .int .i64 c.k, .int .i64 c.n, .int .i64 c.stripes, .int .i64 c.slots], .int .i64 s] w fun e w' => ∃ A c, e = .returned (.tuple #[.agg #[.int .i64 0, .int .i64 0, .slice A k c], .bool true, .int .i64 0, .nilIface]) ∧ Below w.heap.size w w' := by
  have HKn := Lib.hid (fun v => fun hv : Below w.heap.size w v => jKnown_any (h.ext hv) hc hs)
  have HGs := Lib.hid (fun v => fun hv : Below w.heap.size w v => fun i0 : Nat => fun hi : i0 < k => jGoods_blank (h.ext hv) hc hk hs hsc hi (fun d hd => hW d i0 hd hi))
  have hn8 := h.lt
  have hk8 : k ≤ 8 := by
    have hin := CfgM.right_in hc.right
    have := hin.k2
    have := hin.n2
    omega
  have HK := Lib.hid hk
  obtain ⟨ii, hi0, hz0, hs0, hy0⟩ := info_parts info_sfrm
  have HI := Lib.hid hi0
  have HZ := Lib.hid hz0
  have HSz := Lib.hid hs0
  have HY := Lib.hid hy0
  have hz := zero_frm
  clear hi0 hz0 hs0 hy0 h hc hk hs hsc hW
  obtain ⟨W1, hW1⟩ : ∃ W1, (w.alloc (.cells #[.int .i64 c.id, .int .i64 c.k, .int .i64 c.n, .int .i64 c.stripes, .int .i64 c.slots] 25)).alloc (.cells #[.int .i64 0, .int .i64 0, .slice none 0 0] 265) = W1 := ⟨_, rfl⟩
  have hb0 := below_new w (.cells #[.int .i64 c.id, .int .i64 c.k, .int .i64 c.n, .int .i64 c.stripes, .int .i64 c.slots] 25)
  have hb1 : Below w.heap.size w W1 := by rw [← hW1]; exact hb0.trans (below_le hb0.size (below_new _ _))
  have hkc : Bk W1 w.heap.size 25 #[.int .i64 c.id, .int .i64 c.k, .int .i64 c.n, .int .i64 c.stripes, .int .i64 c.slots] := by rw [← hW1]; exact (Bk.made _ _ _).ext (below_new _ _)
  have hkx : Bk W1 (w.heap.size + 1) 265 #[.int .i64 0, .int .i64 0, .slice none 0 0] := by
    have h := Bk.made (w.alloc (.cells #[.int .i64 c.id, .int .i64 c.k, .int .i64 c.n, .int .i64 c.stripes, .int .i64 c.slots] 25)) 265 #[.int .i64 0, .int .i64 0, .slice none 0 0]
    rw [hW1] at h
    simpa using h
  have hld1 := ldCf_bk hkc
  have HB1 := Lib.hid hb1
  have HKc := Lib.hid hkc
  have HKx := Lib.hid hkx
  clear hb0 hb1 hkc hkx
  go_enter Tryz.func171, Tryz.ntmps171
  go_wp2_with fail
  with_reducible refine (HKn.out _ HB1.out).mono ?_
  rintro er w2 ⟨rfl, hb2⟩
  have HB2 := Lib.hid (HB1.out.trans (below_le HB1.out.size hb2))
  have HC2 := Lib.hid (HKc.out.ext hb2)
  have HX2 := Lib.hid (HKx.out.ext hb2)
  have ck : w2.cell? ⟨w.heap.size, 1, none⟩ = some (.int .i64 c.k) := HC2.out.cell 1
  clear hb2 HB1 HKc HKx hld1
  go_wp2_with fail
  clear ck
  go_loopw [10, 11, 29] (fun nw l i wr => ∃ (j : Nat) (vs : Nat → Value), j ≤ k ∧ nw = .int .i64 0 ∧ i = .int .i64 j ∧ Hid (SlotW w wr c j n l vs)) (fun _ _ i _ => k - (intOf i).toNat)
  case atStart => exact ⟨0, fun _ => .nilIface, Nat.zero_le _, rfl, rfl, ⟨LlAt.nil _ _ _ _, HC2.out, HX2.out, HB2.out⟩⟩
  case round =>
    obtain ⟨j, vs, hj, rfl, rfl, hL⟩ := hrel
    clear HC2 HX2 HB2
    by_cases hlt : j < k
    · have hi : (j : Int) < c.k := by rw [HK.out]; omega
      have hld := ldCf_bk hL.out.c
      obtain ⟨Al, cl, rfl, _⟩ := hL.out.l.rd
      go_wp2_with fail
      with_reducible refine (HGs.out _ hL.out.low j hlt).mono ?_
      rintro er w3 ⟨v, rfl, ho3, hb3⟩
      have hL3 := hL.out.ext hb3
      obtain ⟨A, cp, hA, hcl⟩ := ho3.open_ (fun x hx => by rw [List.eq_of_mem_replicate hx]; exact blkF_len j)
      rw [List.length_replicate] at hA
      subst hA
      have hn0 : ((n : Int) == 0) = false := by simp; omega
      have HO3 : Hid (OwnF w3 0 (.slice A n cp) (List.replicate n (blkF j))) := own_low ho3
      have HL3 := Lib.hid hL3
      clear hL hb3 ho3 hL3 hld hcl
      go_wp2_with fail
      obtain ⟨wo, rfl⟩ : ∃ wo, wo = w3 := ⟨_, rfl⟩
      go_loopw [10, 48] (fun nw q wi => ∃ q0 : Nat, q0 ≤ n ∧ nw = .int .i64 0 ∧ q = .int .i64 q0 ∧ Hid (SlotW w wi c j n (.slice Al j cl) vs) ∧ Hid (OwnF wi 0 (.slice A n cp) (List.replicate n (blkF j)))) (fun _ q _ => n - (intOf q).toNat)
      case atStart => exact ⟨0, Nat.zero_le _, rfl, rfl, HL3, HO3⟩
      case round =>
        obtain ⟨q0, hq0, rfl, rfl, hL4, hO4⟩ := hrel
        clear HL3 HO3
        by_cases hlt2 : q0 < n
        · have hi2 : (q0 : Int) < n := by omega
          obtain ⟨gi, rfl, hgi, hfc⟩ := (hO4.out.rd (blkF_len j)) q0 hlt2
          have hld := ldF_mid (blkF_len j) hfc
          have hst := stFr_new wr zeroF (blkF j) blank_len (blkF_len j)
          have hb1 := below_new wr (.cells (blkF j).cells 273)
          have hkf := Bk.made wr 273 (blkF j).cells
          have HL5 := Lib.hid (hL4.out.ext hb1)
          have HO5 : Hid (OwnF (wr.alloc (.cells (blkF j).cells 273)) 0 (.slice (some ⟨gi, 0, none⟩) n cp) (List.replicate n (blkF j))) := own_turned (P := fun _ => False) hO4.out (Turned.of_below hb1) (fun _ _ => id)
          obtain ⟨w1, hw1⟩ : ∃ w1, wr.alloc (.cells (blkF j).cells 273) = w1 := ⟨_, rfl⟩
          rw [hw1] at hst hkf HL5 HO5
          have f3 : w1.cell? ⟨wr.heap.size, 3, none⟩ = some (.int .i64 0) := hkf.cell 3
          clear hb1 hw1 hL4 hO4 hfc hkf
          go_wp2_with fail
          exact ⟨⟨q0 + 1, by omega, rfl, by go_num, HL5, HO5⟩, by simp [intOf]; omega⟩
        · have hqn : q0 = n := by omega
          have hi2 : ¬ (q0 : Int) < n := by omega
          have hb4 := below_new wr (.cells #[.slice A n cp] 266)
          have HL4 := Lib.hid (hL4.out.ext hb4)
          have HO4 : Hid (OwnF (wr.alloc (.cells #[.slice A n cp] 266)) 0 (.slice A n cp) (List.replicate n (blkF j))) := own_turned (P := fun _ => False) hO4.out (Turned.of_below hb4) (fun _ _ => id)
          clear hL4 hO4 hb4
          have HZb : Hid (w.heap.size + 2 ≤ (wr.alloc (.cells #[.slice A n cp] 266)).heap.size) := HL4.out.x.lt
          go_wp2_with (first | (at_builtin; go_loud (refine wpList_append_gen rfl (.tmp 57) (.tmp 59) 360 rfl 266 ii _ 1 24 Tryz.underlying360 HI.out HZ.out HSz.out HY.out rfl (by omega) (w.heap.size + 2) _ _ j _ rfl HL4.out.l.row ⟨wr.heap.size, 0, none⟩ 1 1 [.slice A n cp] rfl rfl (cell_new1 _ _ _) (fun u hu => by rw [List.mem_singleton] at hu; subst hu; rfl) (by unfold maxLen; omega) (by omega) (Below.refl _ _) HZb.out ?_); intro A5 c5 w5 ho5 hg5 hob5 hb5 hs5) | fail)
          exact ⟨⟨j + 1, _, by omega, rfl, by go_num, HL4.out.snoc HO4.out hg5.out ho5.out⟩, by simp [intOf]; omega⟩
    · have hjk : j = k := by omega
      subst hjk
      have hi : ¬ (j : Int) < c.k := by rw [HK.out]; omega
      obtain ⟨A, cp, rfl, hrd⟩ := hL.out.l.rd
      have HWh := Lib.hid (jWhole_blank (c := cp) hrd hk8 hn8.2.1 hn8.1)
      clear hrd
      have HX := Lib.hid hL.out.x
      have HB := Lib.hid hL.out.low
      clear hL
      go_wp2_with fail
      with_reducible refine HWh.out.mono ?_
      rintro er w3 ⟨A3, c3, rfl, hb3⟩
      have HX3 := Lib.hid (HX.out.ext hb3)
      have HB3 := Lib.hid (HB.out.trans (below_le HB.out.size hb3))
      have hst3 := stRec_new w3 #[.int .i64 0, .int .i64 0, .slice none 0 0] rfl 0 0 A3 j c3
      have hb4 := below_new w3 (.cells #[.int .i64 0, .int .i64 0, .slice A3 j c3] 265)
      have hk4 := Bk.made w3 265 #[.int .i64 0, .int .i64 0, .slice A3 j c3]
      have HX4 := Lib.hid (HX3.out.ext hb4)
      have HB4 := Lib.hid (HB3.out.trans (below_le HB3.out.size hb4))
      obtain ⟨w4, hw4⟩ : ∃ w4, w3.alloc (.cells #[.int .i64 0, .int .i64 0, .slice A3 j c3] 265) = w4 := ⟨_, rfl⟩
      rw [hw4] at hst3 hk4 HX4 HB4
      have hld4 := ldRec_bk hk4
      have hst4 := stRec_bk w4 (w.heap.size + 1) #[.int .i64 0, .int .i64 0, .slice none 0 0] rfl 0 0 A3 j c3 HX4.out
      clear hb3 hb4 hw4 hk4
      go_wp2_with fail
      exact bodyPost_ret (res_rec3 rfl _ _ (w.heap.size + 1) 0 0 A3 j c3 rfl (Bk.rowF HX4.out _)) rfl ⟨A3, c3, rfl, HB4.out.grown (row := some (w.heap.size + 1)) (grown_rowF _ _ _) HB4.out.size (fun k hk => by injection hk with hk; omega)⟩
end Go.Proofs.YtkdlofgfkfhofaaGreatDoor

/-
  slices.SortFunc at no records.
-/
namespace Go.Proofs.YtkdlofgfkfhofaaGreatDoor
open Go.RowKit Go.Maps

set_option maxRecDepth 100000 in
set_option maxHeartbeats 2000000 in
theorem insN_any (f : Value) (w : World) : Calls Tryz.prog 308 #[.slice none 0 0, .int .i64 0, .int .i64 0, f] w fun e w' => e = .returned (.tuple #[]) ∧ w' = w := by
  go_enter Tryz.func308, Tryz.ntmps308
  go_wp2_with fail
  go_loopw [8] (fun i wr => i = .int .i64 1 ∧ wr = w) (fun _ _ => 0)
  case atStart => exact ⟨rfl, rfl⟩
  case round =>
    obtain ⟨rfl, rfl⟩ := hrel
    go_wp2_with fail
    go_end0
    exact ⟨rfl, rfl⟩
set_option maxRecDepth 100000 in
set_option maxHeartbeats 2000000 in
theorem pdqN_any (f : Value) (w : World) : Calls Tryz.prog 288 #[.slice none 0 0, .int .i64 0, .int .i64 0, .int .i64 0, f] w fun e w' => e = .returned (.tuple #[]) ∧ w' = w := by
  go_enter Tryz.func288, Tryz.ntmps288
  have HI := Lib.hid (insN_any f w)
  go_wp2_with fail
  go_loopw [1, 2] (fun a b wr => a = .int .i64 0 ∧ b = .int .i64 0 ∧ wr = w) (fun _ _ _ => 0)
  case atStart => exact ⟨rfl, rfl, rfl⟩
  case round =>
    obtain ⟨rfl, rfl, rfl⟩ := hrel
    go_wp2_with fail
    with_reducible refine HI.out.mono ?_
    rintro er w1 ⟨rfl, rfl⟩
    go_wp2_with fail
    refine bodyPost_ret (results_none rfl _ _ _) rfl ?_
    exact ⟨rfl, rfl⟩
set_option maxRecDepth 100000 in
set_option maxHeartbeats 2000000 in
theorem len64_any (w : World) : Calls Tryz.prog 305 #[.int .u64 0] w fun e w' => e = .returned (.int .i64 0) ∧ w' = w := by
  go_enter Tryz.func305, Tryz.ntmps305
  go_wp2_with fail
  go_ret
  exact ⟨congrArg (fun z => Ending.returned (.int .i64 z)) (show wrap64 (wrap64 _) = 0 from by kernel_rfl), rfl⟩
set_option maxRecDepth 100000 in
set_option maxHeartbeats 2000000 in
theorem lenN_any (w : World) : Calls Tryz.prog 278 #[.int .u64 0] w fun e w' => e = .returned (.int .i64 0) ∧ w' = w := by
  have H := Lib.hid (len64_any w)
  go_enter Tryz.func278, Tryz.ntmps278
  go_wp2_with (first | (go_at_call 305; go_loud (with_reducible refine H.out.mono ?_); rintro er w1 ⟨rfl, rfl⟩) | fail)
  go_ret
  exact ⟨rfl, rfl⟩
set_option maxRecDepth 100000 in
set_option maxHeartbeats 2000000 in
theorem sortN_any (f : Value) (w : World) : Calls Tryz.prog 260 #[.slice none 0 0, f] w fun e w' => e = .returned (.tuple #[]) ∧ w' = w := by
  go_enter Tryz.func260, Tryz.ntmps260
  have HP := Lib.hid (pdqN_any f w)
  have HL := Lib.hid (lenN_any w)
  go_wp2_with (first | (go_at_call 278; go_loud (with_reducible refine HL.out.mono ?_); rintro er w1 ⟨rfl, rfl⟩) | (go_at_call 288; go_loud (with_reducible refine HP.out.mono ?_); rintro er w2 ⟨rfl, rfl⟩) | fail)
  go_end0
  exact ⟨rfl, rfl⟩
end Go.Proofs.YtkdlofgfkfhofaaGreatDoor

/-
  volume: records of a volume that was made.
-/
namespace Go.Proofs.YtkdlofgfkfhofaaGreatDoor
open Go.RowKit Go.Maps

/-- what a volume that was made has -/
structure MadeW (W : Nat → Nat → List UInt8) (c : CfgM) (n k l m : Nat) : Prop where
  sup : ∀ j, j < n → W j 0 = putF (c.block j)
  jrn : ∀ j s i, j < n → s < l → i < k → W j (1 + s * k + i) = putF (blkF i)
  str : ∀ j s, j < n → s < m → W j (1 + l * k + s) = putF (frm1 k s j)
theorem volW_made (W : Nat → Nat → List UInt8) (c : CfgM) (n k l m : Nat) : MadeW (volW W c k l m n l) c n k l m := by
  refine ⟨fun j hj => ?_, fun j s i hj hs hi => ?_, fun j s hj hs => ?_⟩
  · unfold volW
    rw [if_pos rfl, if_pos hj]
  · have h1 : (s + 1) * k ≤ l * k := Nat.mul_le_mul_right k hs
    rw [Nat.add_one_mul] at h1
    unfold volW
    rw [if_neg (by omega), if_pos (by omega)]
    congr 2
    rw [show 1 + s * k + i - 1 = i + s * k by omega, Nat.add_mul_mod_self_right, Nat.mod_eq_of_lt hi]
  · unfold volW
    rw [if_neg (by omega), if_neg (by omega), if_pos (by omega), Nat.add_sub_cancel_left]
abbrev volC (r : Nat) (c : CfgM) (seq : Int) (down : Bool) : Array Value := #[.pointer (some ⟨r, 0, none⟩), .int .i64 c.id, .int .i64 c.k, .int .i64 c.n, .int .i64 c.stripes, .int .i64 c.slots, .int .i64 seq, .bool down]
/-- a configuration within a struct -/
theorem ldCf_vol {w : World} {g r : Nat} {c : CfgM} {seq : Int} {down : Bool} (h : Bk w g 178 (volC r c seq down)) : (ldCf (.pointer (some ⟨g, 1, none⟩))).run Tryz.prog w = .ok (.agg #[.int .i64 c.id, .int .i64 c.k, .int .i64 c.n, .int .i64 c.stripes, .int .i64 c.slots]) w :=
  run_loadAt_mid w g 1 25 [.int .i64 c.id, .int .i64 c.k, .int .i64 c.n, .int .i64 c.stripes, .int .i64 c.slots] _ (fun j v hv => by
    rw [Bk.cell h, ← hv]
    unfold volC
    match j, hv with
    | 0, _ => rfl
    | 1, _ => rfl
    | 2, _ => rfl
    | 3, _ => rfl
    | 4, _ => rfl
    | j + 5, hv => cases hv) Tryz.underlying25 rfl size_cfg
theorem bkR_row {w : World} {g : Nat} {t : TypeId} {o : Array Value} (h : Bk w g t o) (c : Array Value) : Bk (w.setRow g c) g t c := by
  unfold Bk at h ⊢
  exact setRow_heap w g o c t _ h
theorem grownR_row (w : World) (g : Nat) (c : Array Value) : w.grownBy (w.setRow g c) (some g) :=
  ⟨rfl, rfl, rfl, by simp, fun k _ hk => setRow_other w g k c (fun e => hk (by rw [e]))⟩
def isR (w : World) (g : Nat) : Prop := ∃ old : Array Value, Bk w g 265 old ∧ old.size = 3
theorem isR.lt {w : World} {g : Nat} (h : isR w g) : g < w.heap.size := by
  obtain ⟨old, h1, _⟩ := h
  exact h1.lt
theorem isR_drew (w : World) (g : Nat) : isR w.drew g ↔ isR w g := Iff.rfl
theorem isR.ext {w w' : World} {g : Nat} (h : isR w g) (hb : Below w.heap.size w w') : isR w' g := by
  obtain ⟨old, h1, h2⟩ := h
  exact ⟨old, h1.ext hb, h2⟩
theorem isR_alloc (w : World) (G : Nat) : isR (w.alloc (.cells #[.int .i64 0, .int .i64 0, .slice none 0 0] 265)) G ↔ isR w G ∨ G = w.heap.size := by
  constructor
  · intro h
    by_cases hg : G < w.heap.size
    · obtain ⟨old, h1, h2⟩ := h
      exact .inl ⟨old, (Below.heap_alloc w _ G hg).symm.trans h1, h2⟩
    · have := h.lt
      simp at this
      exact .inr (by omega)
  · rintro (h | rfl)
    · exact h.ext (below_new _ _)
    · exact ⟨_, Bk.made w _ _, rfl⟩
theorem recR_set {w : World} {g : Nat} (h : isR w g) (cs : Array Value) : Bk (w.setRow g cs) g 265 cs := by
  obtain ⟨old, h1, _⟩ := h
  exact bkR_row h1 _
def stRec0 (v u : Value) : Sem Unit := stRec v u
theorem stRec_if (w : World) (G : Nat) (a b : Int) (A : Option Addr) (m c : Nat) :
    (stRec (.pointer (some ⟨G, 0, none⟩)) (.agg #[.int .i64 a, .int .i64 b, .slice A m c])).run Tryz.prog w = @ite _ (isR w G) (Classical.propDecidable _) (.ok () (w.setRow G #[.int .i64 a, .int .i64 b, .slice A m c])) ((stRec0 (.pointer (some ⟨G, 0, none⟩)) (.agg #[.int .i64 a, .int .i64 b, .slice A m c])).run Tryz.prog w) := by
  split
  · rename_i h
    obtain ⟨old, h1, h2⟩ := h
    exact stRec_bk w G old h2 a b A m c h1
  · rfl
attribute [local go_sem ↓] ldCf_eq ldRec_eq stRec_eq
attribute [local go_sem] isR_drew isR_alloc stRec_if
set_option maxRecDepth 100000 in
set_option maxHeartbeats 4000000 in
theorem vRecords_made {w : World} {o : Nat → Option Nat} {r n S : Nat} {W : Nat → Nat → List UInt8} (h : StoAt w o r n S W) {c : CfgM} (hc : c.At n S) {k l m : Nat} (hk : c.k = (k : Int)) (hl : c.slots = (l : Int)) (hW : MadeW W c n k l m) {g : Nat} (hv : Bk w g 178 (volC r c 1 false)) :
    Calls Tryz.prog 220 #[.pointer (some ⟨g, 0, none⟩)] w fun e w' => e = .returned (.tuple #[.slice none 0 0, .nilIface]) ∧ Below w.heap.size w w' := by
  have hl4 : l ≤ 4 := by have := (CfgM.right_in hc.right).l2; omega
  have HSl : Hid (∀ v, Below w.heap.size w v → ∀ s : Nat, s < l → Calls Tryz.prog 171 #[.pointer (some ⟨r, 0, none⟩), .agg #[.int .i64 c.id, .int .i64 c.k, .int .i64 c.n, .int .i64 c.stripes, .int .i64 c.slots], .int .i64 s] v fun e w' => ∃ A c, e = .returned (.tuple #[.agg #[.int .i64 0, .int .i64 0, .slice A k c], .bool true, .int .i64 0, .nilIface]) ∧ Below v.heap.size v w') := fun v hb s hs => jSlot_blank (h.ext hb) hc hk (by omega) rfl (fun d i hd hi => hW.jrn d s i hd hs hi)
  have HL := Lib.hid hl
  have HV := Lib.hid hv
  have cg5 : w.cell? ⟨g, 5, none⟩ = some (.int .i64 c.slots) := hv.cell 5
  clear h hc hk hl hW hv
  go_enter Tryz.func220, Tryz.ntmps220
  go_wp2_with fail
  clear cg5
  go_loopw [4, 15] (fun v i wr => ∃ s : Nat, s ≤ l ∧ i = .int .i64 s ∧ v = .slice none 0 0 ∧ Hid (Bk wr g 178 (volC r c 1 false)) ∧ Hid (Below w.heap.size w wr)) (fun _ i _ => l - (intOf i).toNat)
  case atStart => exact ⟨0, Nat.zero_le _, rfl, rfl, HV, Below.refl _ _⟩
  case round =>
    obtain ⟨s, hs, rfl, rfl, hV, hB⟩ := hrel
    clear HV
    by_cases hlt : s < l
    · have hi : (s : Int) < c.slots := by rw [HL.out]; omega
      go_upto_region 5 with fail
      have FS : Hid (∀ v, Below wr.heap.size wr v → (Below wr.heap.size wr v ∧ v.cell? ⟨g, 0, none⟩ = some (.pointer (some ⟨r, 0, none⟩)) ∧ (ldCf (.pointer (some ⟨g, 1, none⟩))).run Tryz.prog v = .ok (.agg #[.int .i64 c.id, .int .i64 c.k, .int .i64 c.n, .int .i64 c.stripes, .int .i64 c.slots]) v)) := fun v hb => ⟨hb, (hV.out.ext hb).cell 0, ldCf_vol (hV.out.ext hb)⟩
      have KA : Hid (∀ (w' : World) (o : Obj) (R : Prop), Below wr.heap.size wr w' ∧ R → Below wr.heap.size wr (w'.alloc o)) := fun w' o R h => h.1.alloc h.1.size o
      have KD : Hid (∀ (w' : World) (o : Obj) (R : Prop), Below wr.heap.size wr w'.drew ∧ R → Below wr.heap.size wr (w'.alloc o).drew) := fun w' o R h => h.1.alloc h.1.size o
      have KR : Hid (∀ (w' : World) (g : Nat) (r : Array Value) (R : Prop), Below wr.heap.size wr w' ∧ R → wr.heap.size ≤ g → Below wr.heap.size wr (w'.setRow g r)) := fun w' g r R h hg => below_grown h.1 h.1.size (grownR_row w' g r) hg
      have KC : Hid (∀ (w' w'' : World) (R : Prop), Below wr.heap.size wr w' ∧ R → Below w'.heap.size w' w'' → Below wr.heap.size wr w'') := fun w' w'' R h hb => h.1.trans (below_le h.1.size hb)
      have KZ : Hid (∀ (w' : World) (R : Prop), Below wr.heap.size wr w' ∧ R → wr.heap.size ≤ w'.heap.size) := fun w' R h => h.1.size
      have HC : Hid (∀ (w' : World) (R : Prop), Below wr.heap.size wr w' ∧ R → Calls Tryz.prog 171 #[.pointer (some ⟨r, 0, none⟩), .agg #[.int .i64 c.id, .int .i64 c.k, .int .i64 c.n, .int .i64 c.stripes, .int .i64 c.slots], .int .i64 s] w' fun e w'' => ∃ A c, e = .returned (.tuple #[.agg #[.int .i64 0, .int .i64 0, .slice A k c], .bool true, .int .i64 0, .nilIface]) ∧ Below w'.heap.size w' w'') := fun w' R h => HSl.out w' (hB.out.trans (below_le hB.out.size h.1)) s hlt
      go_region_held3 (fun v => Below wr.heap.size wr v ∧ v.cell? ⟨g, 0, none⟩ = some (.pointer (some ⟨r, 0, none⟩)) ∧ (ldCf (.pointer (some ⟨g, 1, none⟩))).run Tryz.prog v = .ok (.agg #[.int .i64 c.id, .int .i64 c.k, .int .i64 c.n, .int .i64 c.stripes, .int .i64 c.slots]) v) (first | exact FS.out _ (below_drew1 (Below.refl _ _)) | exact FS.out _ (KA.out _ _ _ (by assumption)) | exact FS.out _ (KD.out _ _ _ (by assumption)) | exact FS.out _ (KR.out _ _ _ _ (by assumption) (by first | exact Nat.le_refl _ | omega)) | exact FS.out _ (KC.out _ _ _ (by assumption) (by assumption))) (first | (go_at_call 171; go_loud (with_reducible refine (HC.out _ _ (by assumption)).mono ?_); go_loud (rintro er w4 ⟨A4, c4, rfl, hb4⟩); have hI4 : ∀ G, isR _ G → isR w4 G := fun G h => h.ext hb4; have hz4 : wr.heap.size ≤ w4.heap.size := KZ.out _ _ ⟨KC.out _ _ _ (by assumption) hb4, True.intro⟩) | fail)
      · rename_i hH
        have hk5 := recR_set (show isR (w4.alloc (.cells #[.int .i64 0, .int .i64 0, .slice none 0 0] 265)) w4.heap.size by simp [isR_alloc]) #[.int .i64 0, .int .i64 0, .slice A4 k c4]
        have hb5 := hH.1
        have hV5 := hV.out.ext hb5
        have hB5 := hB.out.trans (below_le hB.out.size hb5)
        clear hH hb5
        generalize (w4.alloc (.cells #[.int .i64 0, .int .i64 0, .slice none 0 0] 265)).setRow w4.heap.size #[.int .i64 0, .int .i64 0, .slice A4 k c4] = w5 at hk5 hV5 hB5 ⊢
        have c0 : w5.cell? ⟨w4.heap.size, 0, none⟩ = some (.int .i64 0) := hk5.cell 0
        have c6 : w5.cell? ⟨g, 6, none⟩ = some (.int .i64 1) := hV5.cell 6
        have fz6 := hV5.thaw 6
        have hss : w5.setCell ⟨g, 6, none⟩ (.int .i64 1) = w5 := cell_same hV5 c6
        have HV5 := Lib.hid hV5
        have HB5 := Lib.hid hB5
        clear hk5 hV5 hB5 hb4
        go_wp2_with fail
        exact ⟨⟨s + 1, by omega, by go_num, rfl, HV5, HB5⟩, by simp [intOf]; omega⟩
      · rename_i hH
        have hk5 := recR_set (hI4 wr.heap.size (by simp [isR_alloc, isR_drew])) #[.int .i64 0, .int .i64 0, .slice A4 k c4]
        have hb5 := hH.1
        have hV5 := hV.out.ext hb5
        have hB5 := hB.out.trans (below_le hB.out.size hb5)
        clear hH hb5
        generalize w4.setRow wr.heap.size #[.int .i64 0, .int .i64 0, .slice A4 k c4] = w5 at hk5 hV5 hB5 ⊢
        have c0 : w5.cell? ⟨wr.heap.size, 0, none⟩ = some (.int .i64 0) := hk5.cell 0
        have c6 : w5.cell? ⟨g, 6, none⟩ = some (.int .i64 1) := hV5.cell 6
        have fz6 := hV5.thaw 6
        have hss : w5.setCell ⟨g, 6, none⟩ (.int .i64 1) = w5 := cell_same hV5 c6
        have HV5 := Lib.hid hV5
        have HB5 := Lib.hid hB5
        clear hk5 hV5 hB5 hb4
        go_wp2_with fail
        exact ⟨⟨s + 1, by omega, by go_num, rfl, HV5, HB5⟩, by simp [intOf]; omega⟩
    · have hsl : s = l := by omega
      have hi : ¬ (s : Int) < c.slots := by rw [HL.out]; omega
      have HN := Lib.hid (sortN_any (.func (.func 261) #[] #[]) wr)
      have HB := hB
      go_wp2_with (first | (go_at_call 260; go_loud (with_reducible refine HN.out.mono ?_); rintro er w1 ⟨rfl, rfl⟩) | fail)
      go_ret2
      exact ⟨rfl, HB.out⟩
end Go.Proofs.YtkdlofgfkfhofaaGreatDoor

/-
  volume: recover of a volume that was made.
-/
namespace Go.Proofs.YtkdlofgfkfhofaaGreatDoor
open Go.RowKit Go.Maps

theorem mGet_made {w : World} {o : Nat → Option Nat} {r n S : Nat} {W : Nat → Nat → List UInt8} (h : StoAt w o r n S W) {c : CfgM} (hc : c.At n S) {k l m : Nat} (hk : c.k = (k : Int)) (hl : c.slots = (l : Int)) (hm : c.stripes = (m : Int)) (hW : MadeW W c n k l m) {s : Nat} (hs : s < m) :
    Calls Tryz.prog 177 #[.pointer (some ⟨r, 0, none⟩), .agg #[.int .i64 c.id, .int .i64 c.k, .int .i64 c.n, .int .i64 c.stripes, .int .i64 c.slots], .int .i64 s] w fun e w' => ∃ v, e = .returned (.tuple #[v, .int .i64 1, .nilIface]) ∧ OwnKs w' w.heap.size v ((List.range k).map fun d => (frm1 k s d).data) ∧ Below w.heap.size w w' := by
  have hin := CfgM.right_in hc.right
  have hn8 := h.lt
  have hG := sGet_any h hc (k := k) (s := s) (gen := 1) (sec := 1 + l * k + s) hk (by omega) (by unfold sectorS; rw [hk, hl]; omega) (F := frm1 k s) (fun d => frmS_len _ _ _ _ _) (fun d hd => frm1_right (by omega) (by have := hin.s2; omega)) (fun d hd => ⟨rfl, rfl, rfl, rfl⟩) (by omega) (fun d hd => hW.str d s hd hs)
  exact hG
attribute [local go_sem ↓] ldCf_eq
set_option maxRecDepth 100000 in
set_option maxHeartbeats 4000000 in
theorem vRecover_made {w : World} {o : Nat → Option Nat} {r n S : Nat} {W : Nat → Nat → List UInt8} (h : StoAt w o r n S W) {c : CfgM} (hc : c.At n S) {k l m : Nat} (hk : c.k = (k : Int)) (hl : c.slots = (l : Int)) (hm : c.stripes = (m : Int)) (hW : MadeW W c n k l m) {g : Nat} (hv : Bk w g 178 (volC r c 1 false)) :
    Calls Tryz.prog 180 #[.pointer (some ⟨g, 0, none⟩)] w fun e w' => e = .returned .nilIface ∧ Below w.heap.size w w' := by
  have hm64 : m ≤ 64 := by have := (CfgM.right_in hc.right).s2; omega
  have HGt := Lib.hid (fun v => fun hb : Below w.heap.size w v => fun s : Nat => fun hs : s < m => mGet_made (h.ext hb) hc hk hl hm hW hs)
  have HRc := Lib.hid (vRecords_made h hc hk hl hW hv)
  have HM := Lib.hid hm
  have HV := Lib.hid hv
  clear h hc hk hl hm hW hv
  go_enter Tryz.func180, Tryz.ntmps180
  go_wp2_with (first | (go_at_call 220; go_loud (with_reducible refine HRc.out.mono ?_); rintro er w1 ⟨rfl, hb1⟩) | fail)
  have c05 : w1.cell? ⟨g, 5, none⟩ = some (.int .i64 c.slots) := (HV.out.ext hb1).cell 5
  have c04 : w1.cell? ⟨g, 4, none⟩ = some (.int .i64 c.stripes) := (HV.out.ext hb1).cell 4
  go_loopw [24] (fun i wr => i = .int .i64 0 ∧ wr = w1) (fun _ _ => 0)
  case atStart => exact ⟨rfl, rfl⟩
  case round =>
    obtain ⟨rfl, rfl⟩ := hrel
    have HV1 := Lib.hid (HV.out.ext hb1)
    have HB1 := Lib.hid hb1
    clear hb1 HV
    go_wp2_with fail
    clear c05 c04
    obtain ⟨wo, rfl⟩ : ∃ wo, wo = wr := ⟨_, rfl⟩
    go_loopw [70] (fun i wi => ∃ s : Nat, s ≤ m ∧ i = .int .i64 s ∧ Hid (Bk wi g 178 (volC r c 1 false)) ∧ Hid (Below w.heap.size w wi)) (fun i _ => m - (intOf i).toNat)
    case atStart => exact ⟨0, Nat.zero_le _, rfl, HV1, HB1⟩
    case round =>
      obtain ⟨s, hs, rfl, hV, hB⟩ := hrel
      clear HV1 HB1
      by_cases hlt : s < m
      · have hi : (s : Int) < c.stripes := by rw [HM.out]; omega
        have FS : Hid (∀ v, Below wr.heap.size wr v → (v.cell? ⟨g, 0, none⟩ = some (.pointer (some ⟨r, 0, none⟩)) ∧ (ldCf (.pointer (some ⟨g, 1, none⟩))).run Tryz.prog v = .ok (.agg #[.int .i64 c.id, .int .i64 c.k, .int .i64 c.n, .int .i64 c.stripes, .int .i64 c.slots]) v)) := fun v hb => ⟨(hV.out.ext hb).cell 0, ldCf_vol (hV.out.ext hb)⟩
        have B0 : Hid (Below wr.heap.size wr wr.drew) := below_drew1 (Below.refl _ _)
        have HC : Hid (Calls Tryz.prog 177 #[.pointer (some ⟨r, 0, none⟩), .agg #[.int .i64 c.id, .int .i64 c.k, .int .i64 c.n, .int .i64 c.stripes, .int .i64 c.slots], .int .i64 s] wr.drew fun e w' => ∃ v, e = .returned (.tuple #[v, .int .i64 1, .nilIface]) ∧ OwnKs w' wr.drew.heap.size v ((List.range k).map fun d => (frm1 k s d).data) ∧ Below wr.drew.heap.size wr.drew w') := HGt.out _ (hB.out.trans (below_le hB.out.size B0.out)) s hlt
        go_upto_region 16 with fail
        go_region_held3 (fun v => v.cell? ⟨g, 0, none⟩ = some (.pointer (some ⟨r, 0, none⟩)) ∧ (ldCf (.pointer (some ⟨g, 1, none⟩))).run Tryz.prog v = .ok (.agg #[.int .i64 c.id, .int .i64 c.k, .int .i64 c.n, .int .i64 c.stripes, .int .i64 c.slots]) v) (first | exact FS.out _ B0.out | exact FS.out _ B4.out | fail) (first | (go_at_call 177; go_loud ((with_reducible refine HC.out.mono ?_); rintro er w4 ⟨v4, rfl, hv4, hb4⟩; have B4 := Lib.hid (B0.out.trans (below_le B0.out.size hb4)); clear hv4 hb4)) | fail)
        have hV5 := hV.out.ext B4.out
        have HB5 := Lib.hid (hB.out.trans (below_le hB.out.size B4.out))
        have c6 : w4.cell? ⟨g, 6, none⟩ = some (.int .i64 1) := hV5.cell 6
        have fz6 := hV5.thaw 6
        have hss : w4.setCell ⟨g, 6, none⟩ (.int .i64 1) = w4 := cell_same hV5 c6
        have HV5 := Lib.hid hV5
        clear hV hB B0 B4 FS HC hV5
        go_wp2_with fail
        exact ⟨⟨s + 1, by omega, by go_num, HV5, HB5⟩, by simp [intOf]; omega⟩
      · have hsm : s = m := by omega
        have hi : ¬ (s : Int) < c.stripes := by rw [HM.out]; omega
        go_wp2_with fail
        go_ret
        exact ⟨rfl, hB.out⟩
end Go.Proofs.YtkdlofgfkfhofaaGreatDoor
