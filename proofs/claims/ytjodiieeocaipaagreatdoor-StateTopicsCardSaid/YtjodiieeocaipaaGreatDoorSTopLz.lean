import Derived.Test.YtjodiieeocaipaaGreatDoorSTopz
import Derived.Deep.RegionHeld3
import Derived.BigQuiet
/-
  stavelaw21: StateTopics.
-/
namespace Go.Proofs.YtjodiieeocaipaaGreatDoor
open Go.RowKit Go.Maps

def ldTp (v : Value) : Sem Value := Instr.loadAt 58 v
theorem ldTp_eq (v : Value) : Instr.loadAt 58 v = ldTp v := rfl
def stTp (v u : Value) : Sem Unit := Instr.storeAt 58 v u
theorem stTp_eq (v u : Value) : Instr.storeAt 58 v u = stTp v u := rfl
theorem size_tp : (Tryz.prog.info? 58).map (·.size) = some 2 := by kernel_rfl
theorem ldTp_at {w : World} {g o : Nat} {a : ByteArray} {b : Int} (h : ∀ j u, ([.string a, .int .i64 b] : List Value)[j]? = some u → w.cell? ⟨g, o + j, none⟩ = some u) : (ldTp (.pointer (some ⟨g, o, none⟩))).run Tryz.prog w = .ok (.agg #[.string a, .int .i64 b]) w := by
  exact run_loadAt_mid w g o 58 [.string a, .int .i64 b] _ h Tryz.underlying58 rfl size_tp
theorem stTp_row {w : World} {G : Nat} {old : Array Value} (h : Bk w G 58 old) (ho : old.size = 2) (a : ByteArray) (b : Int) :
    (stTp (.pointer (some ⟨G, 0, none⟩)) (.agg #[.string a, .int .i64 b])).run Tryz.prog w = .ok () (w.setRow G #[.string a, .int .i64 b]) := by
  unfold stTp
  simp only [Instr.storeAt, Instr.sureAddr, Sem.run_bind, Sem.run_pure, Result.andThen_ok, run_storeVar_row w G _ _ old #[.string a, .int .i64 b] h size_tp (by rw [ho]; rfl) (all_oneCell_toArray (cs := [.string a, .int .i64 b]) (one_all rfl))]
def ixS (v u : Value) : Sem Value := Instr.index 9 v u
theorem ixS_eq (v u : Value) : Instr.index 9 v u = ixS v u := rfl
theorem ixS_wd {j : Nat} (hj : j < 12) (w : World) : (ixS (.string (wd j)) (.int .i64 0)).run Tryz.prog w = .ok (.int .u8 (97 + j)) w := by
  unfold ixS
  rw [run_index_string _ 9 (wd j) .i64 0 Tryz.underlying9]
  rw [dif_pos (show (0 : Int) ≤ 0 ∧ (0 : Int) < (wd j).size by rw [wd_size]; decide)]
  have : ((UInt8.ofNat (97 + j)).toNat : Int) = 97 + j := by rw [UInt8.toNat_ofNat']; omega
  rw [← this]
  rfl
theorem below_same {w w' : World} {B : Nat} (h : Below B w w') : Below B w w' := h
attribute [local go_sem ↓] ldE_eq stE_eq ldD_eq stD_eq ldTp_eq stTp_eq ixS_eq

set_option maxRecDepth 100000 in
set_option maxHeartbeats 8000000 in
theorem stTopl_any (A : Option Addr) (n c : Nat) (l : List Int) (f0 : Int) (hf0 : -9223372036854775808 ≤ f0 ∧ f0 ≤ 9223372036854775807) (w : World) (hr : RdI w A n c l) (hl : ErrLaid w) :
    Calls Tryz.prog 7 #[.slice A n c, .int .i64 f0] w fun e w' => e = .returned (.bool true) ∧ Below w.heap.size w w' := by
  obtain ⟨ii, hi0, hz0, hs0, hy0⟩ := info_parts info_s
  have HI := Lib.hid hi0
  have HZ := Lib.hid hz0
  have HS := Lib.hid hs0
  have HY := Lib.hid hy0
  have HN := Lib.hid (run_new w)
  have HLd := Lib.hid hl
  have HR := Lib.hid hr
  obtain ⟨f, hf⟩ : ∃ f, within f0 0 1099511627776 = f := ⟨_, rfl⟩
  have hfb := within_in f0 0 1099511627776 (by omega)
  rw [hf] at hfb
  have HWf : Hid (∀ v, Calls Tryz.prog 14 #[.int .i64 f0, .int .i64 0, .int .i64 1099511627776] v fun e w' => e = .returned (.int .i64 f) ∧ v = w') := fun v => by
    rw [← hf]
    exact within_any f0 0 1099511627776 v (by omega) (by omega) (by omega) hf0.1 hf0.2
  have HF : Hid (0 ≤ f ∧ f ≤ 9223372036854775807) := ⟨hfb.1, by have := hfb.2; omega⟩
  have hlen := hr.1.len
  rw [List.length_map] at hlen
  have HLen := Lib.hid hlen
  clear hl hr hi0 hz0 hs0 hy0 hf hf0 hlen hfb
  go_enter Tryz.func7, Tryz.ntmps7
  go_wp2_with fail
  with_reducible refine HN.out.mono ?_
  rintro er w1 ⟨s, rfl, hr1⟩
  have HI0 : Hid (TpI w w1 s f 0 none 0 []) := TpI.start hr1
  clear hr1 HN
  go_wp2_with (first | (go_at_call 14; with_reducible refine (HWf.out _).mono ?_; rintro er w5 ⟨rfl, rfl⟩) | fail)
  go_loopw [6, 8] (fun o i wr => ∃ (k : Nat) (A3 : Option Addr) (c3 : Nat) (L : List ByteArray), k ≤ n ∧ k ≤ 24 ∧ i = .int .i64 k ∧ o = .slice A3 L.length c3 ∧ Hid (TpI w wr s f k A3 c3 L)) (fun _ i _ => n - (intOf i).toNat)
  case atStart => exact ⟨0, none, 0, [], by omega, by omega, rfl, rfl, HI0⟩
  case round =>
    obtain ⟨k, A3, c3, L, hkn, hk24, rfl, rfl, hInv⟩ := hrel
    clear HI0
    by_cases hin : k < n ∧ k < 24
    · obtain ⟨hlt, hlt2⟩ := hin
      have hi : (k : Int) < n := by omega
      have hi2 : (k : Int) < 24 := by omega
      obtain ⟨z, hz⟩ : ∃ z, l[k]? = some z := ⟨l[k]'(by have := HLen.out; omega), List.getElem?_eq_getElem _⟩
      have hzb := HR.out.2 z (List.mem_of_getElem? hz)
      obtain ⟨ad, rfl, hblk, hce⟩ := (HR.out.ext hInv.out.below).1.cell k (.int .i64 z) (by rw [List.getElem?_map, hz]; rfl)
      obtain ⟨j, hj⟩ : ∃ j : Nat, within z 0 11 = j := ⟨(within z 0 11).toNat, by have := within_in z 0 11 (by omega); omega⟩
      have hj12 : j < 12 := by have := within_in z 0 11 (by omega); omega
      have HWz : Hid (∀ v, Calls Tryz.prog 14 #[.int .i64 z, .int .i64 0, .int .i64 11] v fun e w' => e = .returned (.int .i64 j) ∧ v = w') := fun v => by
        rw [← hj]
        exact within_any z 0 11 v (by omega) (by omega) (by omega) hzb.1 hzb.2
      obtain ⟨y, hy⟩ : ∃ y, y = wr := ⟨_, rfl⟩
      subst hy
      have h8 : w8 (UInt8.ofNat (97 + j)) = 97 + j := by
        unfold w8
        rw [UInt8.toNat_ofNat']
        omega
      have hb1 := below_new y (.cells #[.int .u8 (97 + j)] 5)
      have hcv : (convert 54 9 (.slice (some ⟨y.heap.size, 0, none⟩) 1 1)).run Tryz.prog (y.alloc (.cells #[.int .u8 (97 + j)] 5)) = .ok (.string (wd j)) (y.alloc (.cells #[.int .u8 (97 + j)] 5)) :=
        run_convert_bytes_back (P := Tryz.prog) _ 54 9 5 ⟨y.heap.size, 0, none⟩ 1 [UInt8.ofNat (97 + j)] Tryz.underlying54 Tryz.underlying5 Tryz.underlying9 (fun i hi => by
          obtain rfl : i = 0 := by simpa using hi
          rw [← h8]
          exact (cell_of_row _ _ 0 _ _ _ (heap_alloc_new y _)).trans rfl)
      have h256 : (97 + (j : Int)) % 256 = 97 + j := by omega
      have hce1 : (y.alloc (.cells #[.int .u8 (97 + j)] 5)).cell? (ad.add k) = some (.int .i64 z) := (hb1.cell (by rw [add_block]; exact hblk)).trans hce
      have HInv := Lib.hid (hInv.out.ext hb1)
      clear hInv hz hzb hj hb1 h8
      go_wp2_with (first | (go_at_call 14; with_reducible refine (HWz.out _).mono ?_; rintro er w5 ⟨rfl, rfl⟩) | fail)
      clear hce1 hce hcv h256 hblk HWz
      generalize y.alloc (.cells #[.int .u8 (97 + j)] 5) = Y at HInv ⊢
      have h8 := HInv.out.few
      go_loopw [11, 54] (fun b i wi => ∃ q : Nat, q ≤ L.length ∧ i = .int .i64 q ∧ b = .bool (anyN (L.take q) (wd j)) ∧ wi = Y) (fun _ i _ => L.length - (intOf i).toNat)
      case atStart => exact ⟨0, by omega, rfl, rfl, rfl⟩
      case round =>
        obtain ⟨q, hq, rfl, rfl, rfl⟩ := hrel
        by_cases hql : q < L.length
        · have hi3 : (q : Int) < L.length := by omega
          obtain ⟨x, hx⟩ : ∃ x, L[q]? = some x := ⟨L[q], List.getElem?_eq_getElem hql⟩
          obtain ⟨ad, rfl, hadl, hce⟩ := (HInv.out.own.reads).cell q (.string x) (by rw [List.getElem?_map, hx]; rfl)
          have hsucc : anyN (L.take (q + 1)) (wd j) = (anyN (L.take q) (wd j) || decide (x = wd j)) := by rw [List.take_add_one, hx]; exact any_snoc _ _ _
          have HSu := Lib.hid hsucc
          clear hsucc hx hadl
          cases hb : anyN (L.take q) (wd j)
          all_goals
            have HBq := Lib.hid hb
            clear hb
            go_wp2_with fail
            refine ⟨⟨q + 1, by omega, by go_num, ?_, trivial⟩, by simp [intOf]; omega⟩
            rw [HSu.out, HBq.out]
            first
              | rw [str_eq]; rfl
              | rfl
        · obtain rfl : q = L.length := by omega
          have hi3 : ¬ (L.length : Int) < L.length := by omega
          rw [List.take_length]
          cases hth : anyN L (wd j)
          · by_cases hfull : 8 ≤ L.length
            · have hi8 : (8 : Int) ≤ L.length := by omega
              have hap := HInv.out.full hk24 hj12 HF.out hth hfull
              unfold tpArgs at hap
              have HAp := Lib.hid hap
              clear hap hth
              go_wp2_with fail
              with_reducible refine HAp.out.mono ?_
              rintro er z1 ⟨v1, rfl, hv1, hI1⟩
              have HV1 := Lib.hid hv1
              clear hv1
              obtain ⟨hst1, hkn1, hbx1⟩ := box_done z1 (0) (0) false
              have HI1 := Lib.hid (hI1.ext hbx1)
              clear hI1 hkn1 hbx1
              go_upto_region 21 with fail
              generalize (z1.alloc (.cells #[.int .i64 0, .int .i64 0, .bool false] 25)).setRow z1.heap.size #[.int .i64 (0), .int .i64 (0), .bool false] = X1 at HI1 ⊢
              clear hst1
              have HKd := Lib.hid (kindV HV1.out (by decide) X1 (ErrLaid.below HLd.out HI1.out.below))
              go_wp2_with (first | (go_at_call 13; go_loud (with_reducible refine HKd.out.mono ?_); go_loud (rintro er y5 ⟨rfl, hy5⟩); have HI5 := Lib.hid (HI1.out.ext hy5); clear hy5) | fail)
              exact ⟨⟨k + 1, A3, c3, L, by omega, by omega, by go_num, rfl, HI5⟩, by simp [intOf]; omega⟩
            · have hi8 : ¬ (8 : Int) ≤ L.length := by omega
              have hap := HInv.out.fresh hk24 hj12 HF.out hth (by omega)
              unfold tpArgs at hap
              have HAp := Lib.hid hap
              clear hap hth
              go_wp2_with fail
              with_reducible refine HAp.out.mono ?_
              rintro er z1 ⟨rfl, hI1⟩
              obtain ⟨hst1, hkn1, hbx1⟩ := box_done z1 (0) (0) false
              have HI1 := Lib.hid (hI1.ext hbx1)
              clear hI1 hkn1 hbx1
              go_upto_region 21 with fail
              generalize (z1.alloc (.cells #[.int .i64 0, .int .i64 0, .bool false] 25)).setRow z1.heap.size #[.int .i64 (0), .int .i64 (0), .bool false] = X1 at HI1 ⊢
              clear hst1
              have HX := Lib.hid (HI1.out.ext (below_new X1 (.cells #[.string (wd j)] 9)))
              have HBx : Hid (Below w.heap.size w (X1.alloc (.cells #[.string (wd j)] 9))) := by
                obtain ⟨N, M, _, h, _⟩ := HX.out.run
                exact h.below
              go_wp2_with (first | (at_builtin; go_loud (refine wpList_append_gen rfl (.tmp 77) (.tmp 79) 30 rfl 9 ii _ 1 16 Tryz.underlying30 HI.out HZ.out HS.out HY.out rfl (by omega) w.heap.size w _ L.length (L.map Value.string) rfl HX.out.own ⟨X1.heap.size, 0, none⟩ 1 1 [.string (wd j)] rfl rfl (cells_newm X1 _ (0, 0) _ _ rfl _ rfl) (one_all rfl) (by unfold maxLen; omega) (by omega) HBx.out HBx.out.size ?_); go_loud (intro A6 c6 w6 ho6 hg6 hx6 hb6 hs6); have HI6 := Lib.hid (HX.out.put ho6.out hg6.out hx6.out)) | fail)
              exact ⟨⟨k + 1, A6, c6, L ++ [wd j], by omega, by omega, by go_num, by simp, HI6⟩, by simp [intOf]; omega⟩
          · have hap := HInv.out.there hk24 hj12 HF.out hth
            unfold tpArgs at hap
            have HAp := Lib.hid hap
            clear hap hth
            go_wp2_with fail
            with_reducible refine HAp.out.mono ?_
            rintro er z1 ⟨v1, rfl, hv1, hI1⟩
            have HV1 := Lib.hid hv1
            clear hv1
            obtain ⟨hst1, hkn1, hbx1⟩ := box_done z1 (0) (0) false
            have HI1 := Lib.hid (hI1.ext hbx1)
            clear hI1 hkn1 hbx1
            go_upto_region 21 with fail
            generalize (z1.alloc (.cells #[.int .i64 0, .int .i64 0, .bool false] 25)).setRow z1.heap.size #[.int .i64 (0), .int .i64 (0), .bool false] = X1 at HI1 ⊢
            clear hst1
            have HKd := Lib.hid (kindV HV1.out (by decide) X1 (ErrLaid.below HLd.out HI1.out.below))
            go_wp2_with (first | (go_at_call 13; go_loud (with_reducible refine HKd.out.mono ?_); go_loud (rintro er y5 ⟨rfl, hy5⟩); have HI5 := Lib.hid (HI1.out.ext hy5); clear hy5) | fail)
            exact ⟨⟨k + 1, A3, c3, L, by omega, by omega, by go_num, rfl, HI5⟩, by simp [intOf]; omega⟩
    · have hcase : ((k : Int) < n ∧ ¬ (k : Int) < 24) ∨ ¬ (k : Int) < n := by omega
      have h8 := hInv.out.few
      obtain ⟨N, M, hN, hR, hT⟩ := hInv.out.run
      have hN40 : N ≤ 40 := by omega
      have htp := run_topics hR
      rw [hT.len] at htp
      have HTp := Lib.hid htp
      have HRn := Lib.hid hR
      have HT := Lib.hid hT
      clear hR hT htp hInv hkn hk24 hin hN
      rcases hcase with ⟨hi1, hi2⟩ | hi1
      all_goals
        go_wp2_with (first | (go_at_call 21; go_loud (with_reducible refine HTp.out.mono ?_); go_loud (rintro er w2 ⟨A2, c2, rfl, hk2, hb2⟩); have HK2 := Lib.hid hk2; have HR2 := Lib.hid ((HRn.out.ext hb2).less (K' := fun _ => False) (fun _ h => h.elim)); clear hk2 hb2) | fail)
        go_loopw [102] (fun i wr => ∃ q : Nat, q ≤ L.length ∧ i = .int .i64 q ∧ Hid (Below w2.heap.size w2 wr)) (fun i _ => L.length - (intOf i).toNat)
        case atStart => exact ⟨0, by omega, rfl, Below.refl _ _⟩
        case round =>
          obtain ⟨q, hq, rfl, hBel⟩ := hrel
          by_cases hql : q < L.length
          · have hi3 : (q : Int) < L.length := by omega
            obtain ⟨t, ht⟩ : ∃ t, M.top[q]? = some t := ⟨M.top[q]'(by rw [HT.out.len]; exact hql), List.getElem?_eq_getElem _⟩
            obtain ⟨j, hj12, htj⟩ := HT.out.each t (List.mem_of_getElem? ht)
            obtain ⟨g, rfl, hg, hcell⟩ := (HK2.out.ext hBel.out).cell q (rowM t) (by rw [List.getElem?_map, ht]; rfl)
            subst htj
            have hld := ldTp_at (g := g) (o := q * 2) (a := wd j) (b := ((List.replicate (1 + j % 4) (newPart f)).length : Int)) (fun i u hu => hcell i u hu)
            have hm4 : ((List.replicate (1 + j % 4) (newPart f)).length : Int) = 1 + (j : Int) % 4 := by
              rw [List.length_replicate]
              omega
            rw [hm4] at hld
            have hkx := Bk.made wr 58 #[.string ⟨#[]⟩, .int .i64 0]
            have hst := stTp_row hkx rfl (wd j) (1 + (j : Int) % 4)
            have hbx0 := below_new wr (.cells #[.string ⟨#[]⟩, .int .i64 0] 58)
            have hbx := below_row hbx0 hbx0.size (Nat.le_refl _) #[.string (wd j), .int .i64 (1 + (j : Int) % 4)]
            have HKx := Lib.hid (hkx.row #[.string (wd j), .int .i64 (1 + (j : Int) % 4)])
            have HBx := Lib.hid (hBel.out.trans (below_le hBel.out.size hbx))
            have HTm := Lib.hid ht
            clear hkx hbx0 hbx hBel hcell hm4 ht hg
            go_upto_region 33 with fail
            obtain ⟨G, hG⟩ : ∃ G, G = wr.heap.size := ⟨_, rfl⟩
            rw [← hG] at HKx HBx ⊢
            generalize (wr.alloc (.cells #[.string ⟨#[]⟩, .int .i64 0] 58)).setRow G #[.string (wd j), .int .i64 (1 + (j : Int) % 4)] = X at HKx HBx ⊢
            clear hst hld hG
            have cx0 : X.cell? ⟨G, 0, none⟩ = some (.string (wd j)) := HKx.out.cell 0
            have cx1 : X.cell? ⟨G, 1, none⟩ = some (.int .i64 (1 + (j : Int) % 4)) := HKx.out.cell 1
            have hix := fun v => ixS_wd hj12 v
            have HNm : Hid (∃ nm, nm = wd j) := ⟨_, rfl⟩
            obtain ⟨nm, hnm⟩ := HNm.out
            rw [← hnm] at cx0 hix HKx HTm
            have HNj := Lib.hid hnm
            clear HNm hnm
            have ej : ((97 + (j : Int)) - 97) = j := by omega
            by_cases hq0 : q = 0
            · have hgt : decide ((0 : Int) < (q : Int)) = false := decide_eq_false (by omega)
              go_quiet (fail)
              clear hq0 hgt ej
              have HBy : Hid (Below w2.heap.size w2 (X.drewN nq)) := HBx.out.trans (below_le HBx.out.size ⟨rfl, rfl, rfl, Nat.le_refl _, fun _ _ => rfl⟩)
              have HKy : Hid (Bk (X.drewN nq) G 58 #[.string nm, .int .i64 (1 + (j : Int) % 4)]) := HKx.out.drawn nq
              generalize X.drewN nq = Y at HBy HKy ⊢
              clear HBx HKx cx0 cx1 hix
              go_wp2_with fail
              go_loopw [19] (fun i wi => ∃ r : Nat, r ≤ 1 + j % 4 ∧ i = .int .i64 r ∧ wi = Y) (fun i _ => (1 + j % 4) - (intOf i).toNat)
              case atStart => exact ⟨0, by omega, rfl, rfl⟩
              case round =>
                obtain ⟨r, hr, rfl, rfl⟩ := hrel
                have cy0 : wr.cell? ⟨G, 0, none⟩ = some (.string nm) := HKy.out.cell 0
                have cy1 : wr.cell? ⟨G, 1, none⟩ = some (.int .i64 (1 + (j : Int) % 4)) := HKy.out.cell 1
                by_cases hrl : r < 1 + j % 4
                · have hi4 : (r : Int) < 1 + (j : Int) % 4 := by omega
                  have hnmS : nm.size ≤ 1000 := by rw [HNj.out, wd_size]; omega
                  have hRy := (HR2.out.ext (below_same HBy.out)).less (K' := fun _ => False) (fun _ h => h.elim)
                  have HLg := Lib.hid (run_log hRy nm hnmS (r : Int) (top_part (run_sorted HR2.out) (List.mem_of_getElem? HTm.out) hrl))
                  clear hRy hnmS
                  go_wp2_with (first | (go_at_call 17; go_loud (with_reducible refine HLg.out.mono ?_); go_loud (rintro er w4 ⟨lb, Q, rfl, hla, hqb, rfl⟩); have HSt4 : Hid (Calls Tryz.prog 20 #[.pointer (some ⟨lb, 0, none⟩)] wr fun e w' => e = .returned (.int .i64 f) ∧ wr = w') := logStart_any hla; have HNx4 : Hid (Calls Tryz.prog 18 #[.pointer (some ⟨lb, 0, none⟩)] wr fun e w' => e = .returned (.int .i64 f) ∧ wr = w') := logNext_any hla; clear hla hqb) | (go_at_call 20; go_loud (with_reducible refine HSt4.out.mono ?_); rintro er w5 ⟨rfl, rfl⟩) | (go_at_call 18; go_loud (with_reducible refine HNx4.out.mono ?_); rintro er w5 ⟨rfl, rfl⟩) | fail)
                  exact ⟨⟨r + 1, by omega, by go_num, trivial⟩, by simp [intOf]; omega⟩
                · have hi4 : ¬ (r : Int) < 1 + (j : Int) % 4 := by omega
                  go_wp2_with fail
                  exact ⟨⟨q + 1, by omega, by go_num, HBy⟩, by simp [intOf]; omega⟩
            · obtain ⟨p, hqp⟩ : ∃ p, q = p + 1 := ⟨q - 1, by omega⟩
              obtain ⟨t', ht'⟩ : ∃ t', M.top[p]? = some t' := ⟨M.top[p]'(by rw [HT.out.len]; omega), List.getElem?_eq_getElem _⟩
              obtain ⟨g', eg, _, hcell'⟩ := (HK2.out.ext HBx.out).cell p (rowM t') (by rw [List.getElem?_map, ht']; rfl)
              obtain rfl : g' = g := by
                have := Option.some.inj eg
                injection this with h _ _
                exact h.symm
              have hord : bytesBefore (namL t'.1) (namL nm) = true := by
                have h1 := run_sorted HR2.out
                obtain ⟨l1, e1⟩ := List.getElem?_eq_some_iff.1 ht'
                obtain ⟨l2, e2⟩ := List.getElem?_eq_some_iff.1 HTm.out
                have h2 := List.pairwise_iff_getElem.1 h1 p q l1 l2 (by omega)
                rw [e1, e2] at h2
                exact h2
              have cp : X.cell? ⟨g', p * 2, none⟩ = some (.string t'.1) := hcell' 0 _ rfl
              obtain ⟨nm', hnm'⟩ : ∃ x, t'.1 = x := ⟨_, rfl⟩
              rw [hnm'] at cp hord
              clear hcell' eg ht' hnm'
              have HOr := Lib.hid hord
              clear hord
              have hgt : (0 : Int) < (q : Int) := by omega
              have hgtn : 0 < q := by omega
              have hqm : (q : Int) - 1 = (p : Int) := by omega
              have hpl : (p : Int) < L.length := by omega
              have HQp := Lib.hid hqp
              clear hqp hq0
              have hl1 : Op.bytesLess nm.toList nm'.toList = false := by
                rw [bytesLess_eq, Lib.toList_data, Lib.toList_data]
                exact decide_eq_false (fun h => List.lt_asymm h (before_lt _ _ HOr.out))
              have hl2 : (nm.toList == nm'.toList) = false := by
                rw [str_eq]
                refine decide_eq_false (fun h => ?_)
                have := HOr.out
                rw [h, WideAt.bytes_irrefl] at this
                cases this
              go_quiet (fail)
              clear hl1 hl2 cp hgt hgtn hqm hpl ej
              have HBy : Hid (Below w2.heap.size w2 (X.drewN nq)) := HBx.out.trans (below_le HBx.out.size ⟨rfl, rfl, rfl, Nat.le_refl _, fun _ _ => rfl⟩)
              have HKy : Hid (Bk (X.drewN nq) G 58 #[.string nm, .int .i64 (1 + (j : Int) % 4)]) := HKx.out.drawn nq
              generalize X.drewN nq = Y at HBy HKy ⊢
              clear HBx HKx cx0 cx1 hix
              go_wp2_with fail
              go_loopw [19] (fun i wi => ∃ r : Nat, r ≤ 1 + j % 4 ∧ i = .int .i64 r ∧ wi = Y) (fun i _ => (1 + j % 4) - (intOf i).toNat)
              case atStart => exact ⟨0, by omega, rfl, rfl⟩
              case round =>
                obtain ⟨r, hr, rfl, rfl⟩ := hrel
                have cy0 : wr.cell? ⟨G, 0, none⟩ = some (.string nm) := HKy.out.cell 0
                have cy1 : wr.cell? ⟨G, 1, none⟩ = some (.int .i64 (1 + (j : Int) % 4)) := HKy.out.cell 1
                by_cases hrl : r < 1 + j % 4
                · have hi4 : (r : Int) < 1 + (j : Int) % 4 := by omega
                  have hnmS : nm.size ≤ 1000 := by rw [HNj.out, wd_size]; omega
                  have hRy := (HR2.out.ext (below_same HBy.out)).less (K' := fun _ => False) (fun _ h => h.elim)
                  have HLg := Lib.hid (run_log hRy nm hnmS (r : Int) (top_part (run_sorted HR2.out) (List.mem_of_getElem? HTm.out) hrl))
                  clear hRy hnmS
                  go_wp2_with (first | (go_at_call 17; go_loud (with_reducible refine HLg.out.mono ?_); go_loud (rintro er w4 ⟨lb, Q, rfl, hla, hqb, rfl⟩); have HSt4 : Hid (Calls Tryz.prog 20 #[.pointer (some ⟨lb, 0, none⟩)] wr fun e w' => e = .returned (.int .i64 f) ∧ wr = w') := logStart_any hla; have HNx4 : Hid (Calls Tryz.prog 18 #[.pointer (some ⟨lb, 0, none⟩)] wr fun e w' => e = .returned (.int .i64 f) ∧ wr = w') := logNext_any hla; clear hla hqb) | (go_at_call 20; go_loud (with_reducible refine HSt4.out.mono ?_); rintro er w5 ⟨rfl, rfl⟩) | (go_at_call 18; go_loud (with_reducible refine HNx4.out.mono ?_); rintro er w5 ⟨rfl, rfl⟩) | fail)
                  exact ⟨⟨r + 1, by omega, by go_num, trivial⟩, by simp [intOf]; omega⟩
                · have hi4 : ¬ (r : Int) < 1 + (j : Int) % 4 := by omega
                  go_wp2_with fail
                  exact ⟨⟨q + 1, by omega, by go_num, HBy⟩, by simp [intOf]; omega⟩
          · have hi3 : ¬ (q : Int) < L.length := by omega
            have HBl : Hid (Below w.heap.size w wr) := HR2.out.below.trans (below_le HR2.out.below.size hBel.out)
            have HSr := Lib.hid (stRuns_any wr (ErrLaid.below HLd.out HBl.out))
            go_wp2_with (first | (go_at_call 3; go_loud (with_reducible refine HSr.out.mono ?_); go_loud (rintro er w9 ⟨rfl, hb9⟩); have HB9 := Lib.hid hb9; clear hb9) | fail)
            go_ret
            exact ⟨rfl, HBl.out.trans (below_le HBl.out.size HB9.out)⟩
end Go.Proofs.YtjodiieeocaipaaGreatDoor

/-
  stavelaw21: StateTopics, over whatever came.
-/
namespace Go.Proofs.YtjodiieeocaipaaGreatDoor
open Go.ChangeShapes Go.WideShapes Go.ChangeAt Go.RowKit
set_option maxRecDepth 100000 in
theorem stateTopics_any {H : Type} {enc : TypeId × Value → H} {base : Nat} {v0 v1 : Value} {d0 d1 : DataW H} {p0 p1 : List MemPlace} (w : World) (hl : ErrLaid w) (h0 : Came enc w base 47 v0 d0 p0) (h1 : Came enc w base 3 v1 d1 p1) :
    Calls Tryz.prog 7 #[v0, v1] w fun er w' => er = .returned (.bool true) ∧ Below w.heap.size w w' := by
  obtain ⟨A, n, c, l, rfl, hr⟩ := h0.ints
  obtain ⟨z, rfl, hz⟩ := h1.int
  exact stTopl_any A n c l z hz w hr hl
end Go.Proofs.YtjodiieeocaipaaGreatDoor
