/-
  The walk of frame.Get.
-/
import Derived.Test.YtcggnphoekmoaaaFrmPut
import Derived.Test.YtcggnphoekmoaaaBytesEq
namespace Go.Proofs.Ytcggnphoekmoaaa
open Go.RowKit CrcMath
attribute [local go_sem] w8_nn w8_256 wrap_i64_w8 wrap64_w8 pastA_zero pastA_some Frm.c0 Frm.c1 Frm.c2 Frm.c3
attribute [local go_sem ↓] sliced_past ldF_eq stF_eq bdF_eq

/-- the frame that 128 bytes are read as -/
def frmOf (l : List UInt8) : Frm := ⟨w8 (l[2]?.getD 0), w8 (l[3]?.getD 0), wrapN (leN ((l.drop 4).take 4)), wrapN (leN ((l.drop 8).take 8)), (l.drop 16).take 108⟩
/-- is it good; what is handed back -/
def got (l : List UInt8) : Bool := decide (l.length = 128) && ((frmOf l).right && decide ((frmOf l).put = l))
def gotF (l : List UInt8) : Frm := if got l then frmOf l else zeroF
theorem frmOf_len (l : List UInt8) (h : l.length = 128) : (frmOf l).data.length = 108 := by simp [frmOf, h]
theorem gotF_len (l : List UInt8) : (gotF l).data.length = 108 := by
  unfold gotF
  split
  · rename_i h
    unfold got at h
    simp at h
    exact frmOf_len l h.1
  · exact blank_len
theorem gotF_no {l : List UInt8} (h : got l = false) : gotF l = zeroF := by simp [gotF, h]
theorem gotF_yes {l : List UInt8} (h : got l = true) : gotF l = frmOf l := by simp [gotF, h]
/-- the results of a function that hands back a frame and a bool -/
theorem res_frm {fn : Func} {p u : Tmp} (h : fn.results = #[.cell p 38, .tmp u]) (tmps : Array Value) (w : World) (g : Nat) (f : Frm) (hp : tmps.getD p undef = .pointer (some ⟨g, 0, none⟩)) (hb : Bk w g 38 f.cells) (hl : f.data.length = 108) :
    (results fn tmps).run Try.prog w = .ok (.tuple #[.agg f.cells, tmps.getD u undef]) w := by
  rw [results_cell_tmp h, hp]
  simp only [asAddr, Sem.run_pure, Result.andThen_ok, run_loadVar_row w g _ _ f.cells (0, 0) _ hb Try.underlying38 rfl (size_of hl)]

theorem splice4 (a b c d : Value) (new : List UInt8) (h : new.length = 108) : splice (a :: b :: c :: d :: bvs blank) 4 (bvs new) = a :: b :: c :: d :: bvs new := by
  have h1 : (bvs new).length = 108 := by rw [bvs_len, h]
  have h2 : (bvs blank).length = 108 := by rw [bvs_len, blank_len]
  unfold splice
  simp [h1, h2]
theorem put_len {f : Frm} (hl : f.data.length = 108) : f.put.length = 128 := by simp [Frm.put, Frm.head, leB_len, hl]
theorem equal_at (A : Option Addr) (n c : Nat) (l : List UInt8) (A' : Option Addr) (n' c' : Nat) (l' : List UInt8) (w : World) (h : RdB w A n c l) (h' : RdB w A' n' c' l') (b : Bool) (hb : decide (l = l') = b) :
    Calls Try.prog 32 #[.slice A n c, .slice A' n' c'] w fun e w' => e = .returned (.bool b) ∧ w = w' := by
  rw [← hb]
  exact equal_any A n c l A' n' c' l' w h h'

set_option maxRecDepth 100000 in
set_option maxHeartbeats 400000 in
theorem get_len (A : Option Addr) (n c : Nat) (w : World) (hn : ¬ n = 128) :
    Calls Try.prog 19 #[.slice A n c] w fun e w' => e = .returned (.tuple #[.agg zeroF.cells, .bool false]) ∧ Below w.heap.size w w' := by
  have hz := zero_frm
  have t0 : ((n : Int) != 128) = true := by rw [bne_iff_ne]; omega
  have hbd := bdF_none
  have hst := stF_new w zeroF zeroF blank_len blank_len
  go_enter Try.func19, Try.ntmps19
  go_wp2
  exact bodyPost_ret (res_frm rfl _ _ w.heap.size zeroF rfl (Bk.made w _ _) blank_len) rfl ⟨rfl, below_new _ _⟩
set_option maxRecDepth 100000 in
set_option maxHeartbeats 1000000 in
theorem get_128 (A : Option Addr) (c : Nat) (l : List UInt8) (w : World) (hr : RdB w A 128 c l) :
    Calls Try.prog 19 #[.slice A 128 c] w fun e w' => e = .returned (.tuple #[.agg (gotF l).cells, .bool (got l)]) ∧ Below w.heap.size w w' := by
  have hz := zero_frm
  have hbd := bdF_none
  have hbd4 := bdF_four
  have hlen := hr.len
  have hcap := hr.cap
  have hbig := hr.big
  obtain ⟨ad, x2, rfl, _, h2, d2⟩ := hr.get (k := 2) (by omega)
  obtain ⟨_, x3, e3, _, h3, d3⟩ := hr.get (k := 3) (by omega)
  injection e3 with e3; subst e3
  have d2 : w.cell? ⟨ad.block, ad.off + 2, none⟩ = some (.int .u8 (w8 x2)) := d2
  have d3 : w.cell? ⟨ad.block, ad.off + 3, none⟩ = some (.int .u8 (w8 x3)) := d3
  have hlt : ad.block < w.heap.size := cell_lt (a := ⟨ad.block, ad.off + 2, none⟩) d2
  have HR := Lib.hid hr
  have HL := Lib.hid hlen
  clear hr hlen
  have hF : Hid (frmOf l = ⟨w8 x2, w8 x3, wrapN (leN ((l.drop 4).take 4)), wrapN (leN ((l.drop 8).take 8)), (l.drop 16).take 108⟩) := by
    unfold frmOf
    rw [h2.out, h3.out]
    rfl
  clear h2 h3
  have c4 : (4 : Int) ≤ (c : Int) := by omega
  have c8 : (8 : Int) ≤ (c : Int) := by omega
  have c16 : (16 : Int) ≤ (c : Int) := by omega
  have c124 : (124 : Int) ≤ (c : Int) := by omega
  go_enter Try.func19, Try.ntmps19
  go_wp2_with fail
  refine wp_cut (fun w' => Bk w' w.heap.size 38 zeroF.cells ∧ Below w.heap.size w w' ∧ w.heap.size < w'.heap.size) ⟨Bk.made w _ _, below_new _ _, by simp⟩ ?_
  rintro w1 ⟨hb1, hB1, hs1⟩
  have HB1 := Lib.hid hb1
  clear hb1
  have FS : Hid (∀ w', Below w.heap.size w w' → (Below w.heap.size w w' ∧ w'.cell? ⟨ad.block, ad.off + 2, none⟩ = some (.int .u8 (w8 x2)) ∧ w'.cell? ⟨ad.block, ad.off + 3, none⟩ = some (.int .u8 (w8 x3)))) := fun w' hb =>
    ⟨hb, ((bcell hb).1 _ _ hlt).trans d2, ((bcell hb).1 _ _ hlt).trans d3⟩
  clear d2 d3
  have hst := stF_newd w1 zeroF ⟨w8 x2, w8 x3, wrapN (leN ((l.drop 4).take 4)), wrapN (leN ((l.drop 8).take 8)), blank⟩ blank_len blank_len
  go_region_held3 (fun w' => Below w.heap.size w w' ∧ w'.cell? ⟨ad.block, ad.off + 2, none⟩ = some (.int .u8 (w8 x2)) ∧ w'.cell? ⟨ad.block, ad.off + 3, none⟩ = some (.int .u8 (w8 x3)))
    (first | exact FS.out _ (below_drew1 hB1) | exact FS.out _ (below_drew1 (hB1.alloc (Nat.le_of_lt hs1) _)))
    (first | (go_at_call 31; (with_reducible refine (number_any _ 4 _ ((l.drop 4).take 4) _ ?_ ?_).mono ?_); exact ((HR.out.past' 4 (by omega)).upto 4 (by omega)).ext (by first | exact below_drew1 hB1 | exact below_drew1 (hB1.alloc (Nat.le_of_lt hs1) _)); omega; rintro e wz ⟨rfl, rfl⟩) | (go_at_call 31; (with_reducible refine (number_any _ 8 _ ((l.drop 8).take 8) _ ?_ ?_).mono ?_); exact ((HR.out.past' 8 (by omega)).upto 8 (by omega)).ext (by first | exact below_drew1 hB1 | exact below_drew1 (hB1.alloc (Nat.le_of_lt hs1) _)); omega; rintro e wz ⟨rfl, rfl⟩))
  all_goals
    clear hst
    go_wp2_with fail
    refine wp_cut (fun w' => Bk w' w.heap.size 38 zeroF.cells ∧ Bk w' w1.heap.size 38 (Frm.cells ⟨w8 x2, w8 x3, wrapN (leN ((l.drop 4).take 4)), wrapN (leN ((l.drop 8).take 8)), blank⟩) ∧ Below w.heap.size w w' ∧ w1.heap.size < w'.heap.size)
      ⟨(HB1.out.alloc _).drawn1, (Bk.made _ _ _).drawn1, below_drew1 (hB1.alloc (Nat.le_of_lt hs1) _), by simp⟩ ?_
    rintro w2 ⟨hz2, hf2, hB2, hs2⟩
    have HZ2 := Lib.hid hz2
    have HF2 := Lib.hid hf2
    have HR2 := Lib.hid (((HR.out.past' 16 (by omega)).upto 108 (by omega)).ext (below_drew1 hB2))
    clear hz2 hf2
    have hBw : Below w1.heap.size w2 w2.drew := below_drew1 (Below.refl _ _)
    go_region_held3 (fun w' => Below w1.heap.size w2 w') (first | exact hB3 | exact hBw) ((refine step_copy_bytes (by rfl) (.tmp 25) (.tmp 27) 24 24 (by rfl) 5 Try.underlying24 size_byte (some ⟨w1.heap.size, 4, none⟩) 108 108 108 (c - 16) (pastA (some ad) 16 c 1) (by rfl) (by rfl) w1.heap.size 4 (.int .i64 (w8 x2) :: .int .i64 (w8 x3) :: .int .i64 (wrapN (leN ((l.drop 4).take 4))) :: .int .i64 (wrapN (leN ((l.drop 8).take 8))) :: bvs blank) 38 (Bk.drawn1 HF2.out) ((l.drop 16).take 108) HR2.out (by rfl) (by simp [bvs_len, blank_len]) w1.heap.size w2 hBw (Nat.le_refl _) ?_; intro w3 hb3 hB3))
    have hB : Below w.heap.size w w3 := hB2.trans (below_le (Nat.le_of_lt hs1) hB3)
    have hs3 : w1.heap.size < w3.heap.size := Nat.lt_of_lt_of_le hs2 hB3.size
    have hz3 : Bk w3 w.heap.size 38 zeroF.cells := HZ2.out.below hB3 hs1
    have hdl := frmOf_len l HL.out
    have hf3 : Bk w3 w1.heap.size 38 (frmOf l).cells := by
      have h := hb3.out
      rw [List.take_take, Nat.min_self, splice4 _ _ _ _ _ (by rw [List.length_take, List.length_drop, HL.out]; omega)] at h
      rw [hF.out]
      exact h
    have hld := ldF_bk hf3 hdl
    have HR3 := Lib.hid (HR.out.ext hB)
    have HZ3 := Lib.hid hz3
    have HF3 := Lib.hid hf3
    clear hz3 hf3 hb3 hB3 hB2 hBw HR2 HF2 HZ2 hs2 HR HB1 hB1 FS
    cases hrt : (frmOf l).right
    · have hgot : got l = false := by simp [got, hrt]
      have Hgot := Lib.hid hgot
      have hne : decide ([] = l) = false := by
        rw [decide_eq_false_iff_not]
        rintro rfl
        have := HL.out
        simp at this
      have Hne := Lib.hid hne
      clear hgot hne
      go_wp2_with fail
      refine (put_no (frmOf l) hdl hrt _).mono ?_
      rintro e w4 ⟨rfl, hb4⟩
      have hst := stF_bk w4 w.heap.size zeroF zeroF (HZ3.out.ext hb4) blank_len blank_len
      have hB4 := hB.trans (below_le hB.size hb4)
      go_wp2_with fail
      refine (equal_at none 0 0 [] (some ad) 128 c l w4 (RdB.nil _) (HR3.out.ext hb4) false Hne.out).mono ?_
      rintro e w5 ⟨rfl, rfl⟩
      go_wp2
      refine bodyPost_ret (res_frm rfl _ _ w.heap.size zeroF rfl (Bk.row (HZ3.out.ext hb4) _) blank_len) rfl ⟨?_, hB4.grown (grown_row _ _ _) hB4.size (fun k hk => by injection hk with hk; omega)⟩
      rw [gotF_no Hgot.out, Hgot.out]
      rfl
    · cases heq : decide ((frmOf l).put = l)
      · have hgot : got l = false := by simp [got, hrt]; intro _; exact of_decide_eq_false heq
        have Hgot := Lib.hid hgot
        have Heq := Lib.hid heq
        clear hgot heq
        go_wp2_with fail
        refine (put_yes (frmOf l) hdl hrt _).mono ?_
        rintro e w4 ⟨gp, hgp, rfl, hbp, hb4⟩
        have hst := stF_bk w4 w.heap.size zeroF zeroF (HZ3.out.ext hb4) blank_len blank_len
        have hB4 := hB.trans (below_le hB.size hb4)
        have hpl : (frmOf l).put.length = 128 := put_len hdl
        go_wp2_with fail
        refine (equal_at _ 128 128 (frmOf l).put (some ad) 128 c l w4 (hbp.whole 128 128 hpl.symm (Nat.le_refl _) (by omega)) (HR3.out.ext hb4) false Heq.out).mono ?_
        rintro e w5 ⟨rfl, rfl⟩
        clear hbp
        go_wp2
        refine bodyPost_ret (res_frm rfl _ _ w.heap.size zeroF rfl (Bk.row (HZ3.out.ext hb4) _) blank_len) rfl ⟨?_, hB4.grown (grown_row _ _ _) hB4.size (fun k hk => by injection hk with hk; omega)⟩
        rw [gotF_no Hgot.out, Hgot.out]
        rfl
      · have hgot : got l = true := by simp [got, hrt, HL.out]; exact of_decide_eq_true heq
        have Hgot := Lib.hid hgot
        have Heq := Lib.hid heq
        clear hgot heq
        go_wp2_with fail
        refine (put_yes (frmOf l) hdl hrt _).mono ?_
        rintro e w4 ⟨gp, hgp, rfl, hbp, hb4⟩
        have hst := stF_bk w4 w.heap.size zeroF (frmOf l) (HZ3.out.ext hb4) blank_len hdl
        have hld4 := ldF_bk (HF3.out.ext hb4) hdl
        have hB4 := hB.trans (below_le hB.size hb4)
        have hpl : (frmOf l).put.length = 128 := put_len hdl
        go_wp2_with fail
        refine (equal_at _ 128 128 (frmOf l).put (some ad) 128 c l w4 (hbp.whole 128 128 hpl.symm (Nat.le_refl _) (by omega)) (HR3.out.ext hb4) true Heq.out).mono ?_
        rintro e w5 ⟨rfl, rfl⟩
        clear hbp
        go_wp2
        refine bodyPost_ret (res_frm rfl _ _ w.heap.size (frmOf l) rfl (Bk.row (HZ3.out.ext hb4) _) hdl) rfl ⟨?_, hB4.grown (grown_row _ _ _) hB4.size (fun k hk => by injection hk with hk; omega)⟩
        rw [gotF_yes Hgot.out, Hgot.out]
        rfl
theorem get_any (A : Option Addr) (n c : Nat) (l : List UInt8) (w : World) (hr : RdB w A n c l) :
    Calls Try.prog 19 #[.slice A n c] w fun e w' => e = .returned (.tuple #[.agg (gotF l).cells, .bool (got l)]) ∧ Below w.heap.size w w' := by
  by_cases hn : n = 128
  · subst hn
    exact get_128 A c l w hr
  · have hg : got l = false := by
      have : ¬ l.length = 128 := by rw [hr.len]; exact hn
      simp [got, this]
    rw [gotF_no hg, hg]
    exact get_len A n c w hn
end Go.Proofs.Ytcggnphoekmoaaa
