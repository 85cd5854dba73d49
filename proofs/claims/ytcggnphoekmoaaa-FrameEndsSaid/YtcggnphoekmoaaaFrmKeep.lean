/-
  The walks of stavekeep's Block and Frame: whatever number, some 108 bytes.
-/
import Derived.Test.YtcggnphoekmoaaaFrmLaw
namespace Go.Proofs.Ytcggnphoekmoaaa
open Go.RowKit CrcMath
attribute [local go_sem] w8_nn w8_256 wrap_i64_w8 wrap64_w8 pastA_zero pastA_some
attribute [local go_sem ↓] sliced_past ldF_eq stF_eq bdF_eq

theorem fold_zip (l : List Value) : ∀ (j off : Nat) (base : Array Value), off + j + l.length ≤ base.size →
    ((l.zipIdx j).foldl (fun (cs : Array Value) (p : Value × Nat) => cs.setIfInBounds (off + p.2) p.1) base).toList = base.toList.take (off + j) ++ (l ++ base.toList.drop (off + j + l.length)) := by
  induction l with
  | nil => intro j off base _; simp
  | cons c l ih =>
    intro j off base h
    rw [List.zipIdx_cons, List.foldl_cons, ih (j + 1) off _ (by simp at h ⊢; omega)]
    have hk : off + j < base.toList.length := by simp at h ⊢; omega
    rw [Array.toList_setIfInBounds]
    have e1 : (base.toList.set (off + j) c).take (off + (j + 1)) = base.toList.take (off + j) ++ [c] := by
      rw [show off + (j + 1) = off + j + 1 by omega, List.take_succ_eq_append_getElem (by simpa using hk), List.take_set_of_le (Nat.le_refl _)]
      simp
    have e2 : (base.toList.set (off + j) c).drop (off + (j + 1) + l.length) = base.toList.drop (off + j + (c :: l).length) := by
      rw [List.drop_set_of_lt (by omega)]
      congr 1
      simp
      omega
    rw [e1, e2]
    simp
theorem built_frm (parts : List (Nat × Value)) : Try.prog.built 38 parts = Instr.fill ((#[(0, 1), (1, 1), (2, 1), (3, 1), (4, 108)] : Array (Nat × Nat))[·]?) zeroF.cells parts := by kernel_rfl
theorem fill_four (a b c d : Int) (X : Value) : Instr.fill ((#[(0, 1), (1, 1), (2, 1), (3, 1), (4, 108)] : Array (Nat × Nat))[·]?) zeroF.cells [(0, .int .i64 a), (1, .int .i64 b), (2, .int .i64 c), (3, .int .i64 d), (4, X)] =
    Instr.fill ((#[(0, 1), (1, 1), (2, 1), (3, 1), (4, 108)] : Array (Nat × Nat))[·]?) (Frm.cells ⟨a, b, c, d, blank⟩) [(4, X)] := by kernel_rfl
theorem bdF_five (a b c d : Int) (D : List UInt8) (hD : D.length = 108) (w : World) :
    (bdF #[(0, .int .i64 a), (1, .int .i64 b), (2, .int .i64 c), (3, .int .i64 d), (4, .agg (bvs D).toArray)]).run Try.prog w = .ok (.agg (Frm.cells ⟨a, b, c, d, D⟩)) w := by
  unfold bdF
  refine run_build w _ _ _ ?_
  rw [built_frm]
  show Instr.fill _ zeroF.cells [(0, .int .i64 a), (1, .int .i64 b), (2, .int .i64 c), (3, .int .i64 d), (4, .agg (bvs D).toArray)] = _
  rw [fill_four]
  have hb : (bvs D).length = 108 := by rw [bvs_len, hD]
  have hs : (Frm.cells ⟨a, b, c, d, blank⟩).size = 112 := Frm.size blank_len
  have hp : ((#[(0, 1), (1, 1), (2, 1), (3, 1), (4, 108)] : Array (Nat × Nat))[4]?) = some (4, 108) := rfl
  have hv : (Value.agg (bvs D).toArray).cells = (bvs D).toArray := rfl
  unfold Instr.fill
  simp only [hp, hv, List.size_toArray, hb, hs]
  rw [if_neg (by simp)]
  unfold Instr.fill
  congr 1
  apply Array.ext'
  have hf := fold_zip (bvs D) 0 4 (Frm.cells ⟨a, b, c, d, blank⟩) (by rw [hb, hs]; omega)
  have hzi : (bvs D).toArray.zipIdx = ((bvs D).zipIdx).toArray := by
    apply Array.ext'
    simp
  rw [hzi, List.foldl_toArray']
  refine Eq.trans hf ?_
  rw [hb]
  have h1 : (Frm.cells ⟨a, b, c, d, blank⟩).toList = .int .i64 a :: .int .i64 b :: .int .i64 c :: .int .i64 d :: bvs blank := rfl
  have h2 : (Frm.cells ⟨a, b, c, d, D⟩).toList = .int .i64 a :: .int .i64 b :: .int .i64 c :: .int .i64 d :: bvs D := rfl
  rw [h1, h2, List.drop_of_length_le (by simp [bvs, blank])]
  · simp
  · rfl
def ldK (v : Value) : Sem Value := Instr.loadAt 60 v
theorem ldK_eq (v : Value) : Instr.loadAt 60 v = ldK v := rfl
def stK (p v : Value) : Sem Unit := Instr.storeAt 60 p v
theorem stK_eq (p v : Value) : Instr.storeAt 60 p v = stK p v := rfl
theorem size_blk {D : List UInt8} (hD : D.length = 108) : (Try.prog.info? 60).map (·.size) = some (bvs D).toArray.size := by
  rw [List.size_toArray, bvs_len, hD]
  kernel_rfl
theorem ldK_bb {w : World} {g : Nat} {D : List UInt8} (h : Bb w g 60 D) (hD : D.length = 108) : (ldK (.pointer (some ⟨g, 0, none⟩))).run Try.prog w = .ok (.agg (bvs D).toArray) w := by
  unfold ldK
  simp only [Instr.loadAt, Instr.sureAddr, Sem.run_bind, Sem.run_pure, Result.andThen_ok, run_loadVar_row w g _ _ (bvs D).toArray (0, 0) _ h Try.underlying60 rfl (size_blk hD)]
theorem one_bvs (D : List UInt8) : (bvs D).toArray.all (·.oneCell') = true := by
  rw [Array.all_eq_true_iff_forall_mem]
  intro v hv
  obtain ⟨b, _, rfl⟩ := List.mem_map.1 (List.mem_toArray.1 hv)
  rfl
theorem stK_bb (w : World) (g : Nat) (O D : List UInt8) (h : Bb w g 60 O) (hO : O.length = 108) (hD : D.length = 108) :
    (stK (.pointer (some ⟨g, 0, none⟩)) (.agg (bvs D).toArray)).run Try.prog w = .ok () (w.setRow g (bvs D).toArray) := by
  unfold stK
  simp only [Instr.storeAt, Instr.sureAddr, Sem.run_bind, Sem.run_pure, Result.andThen_ok, run_storeVar_row w g _ _ (bvs O).toArray (bvs D).toArray h (size_blk hD) (by simp [bvs_len, hO, hD]) (one_bvs D)]
theorem zero_blk (w : World) : (zeroValue 60).run Try.prog w = .ok (.agg (bvs blank).toArray) w := by kernel_rfl
theorem Bb.putInt {w : World} {g : Nat} {t : TypeId} {l : List UInt8} (h : Bb w g t l) (i : Nat) (z : Int) (h0 : 0 ≤ z) (h1 : z < 256) : Bb (w.setCell ⟨g, i, none⟩ (.int .u8 z)) g t (l.set i (UInt8.ofNat z.toNat)) := by
  have := h.put i (UInt8.ofNat z.toNat)
  rwa [w8_ofInt z h0 (by omega)] at this
attribute [local go_sem ↓] ldK_eq stK_eq
theorem bk_made3 (w : World) (t : TypeId) (cs : Array Value) (g : Nat) (hg : g = w.heap.size) : Bk (w.alloc (.cells cs t)) g t cs := by subst hg; exact Bk.made w t cs
set_option maxRecDepth 100000 in
set_option maxHeartbeats 1000000 in
theorem block_any (n : Int) (w : World) : Calls Try.prog 37 #[.int .i64 n] w fun e w' => ∃ D : List UInt8, D.length = 108 ∧ e = .returned (.agg (bvs D).toArray) ∧ Below w.heap.size w w' := by
  have hz := zero_blk
  go_enter Try.func37, Try.ntmps37
  go_wp2_with fail
  go_loopw [5] (fun i wr => ∃ k : Nat, k ≤ 108 ∧ i = .int .i64 k ∧ ∃ D : List UInt8, D.length = 108 ∧ Bb wr (w.heap.size + 1) 60 D ∧ Bb wr w.heap.size 60 blank ∧ Below w.heap.size w wr) (fun i _ => 108 - (intOf i).toNat)
  case atStart => exact ⟨0, by omega, rfl, blank, blank_len, bk_made3 _ _ _ _ (by simp), Bk.alloc (Bk.made w _ _) _, (below_new w _).alloc (by simp) _⟩
  case round =>
    obtain ⟨k, hk, rfl, D, hD, hb, hbl, hB⟩ := hrel
    by_cases hlt : k < 108
    · have hi : (k : Int) < 108 := by omega
      obtain ⟨y, _, hc⟩ := hb.get (i := k) (by omega)
      have hf := hb.thaw k
      have Hb := Lib.hid hb
      have Hbl := Lib.hid hbl
      have HD := Lib.hid hD
      clear hb hbl hD
      go_wp2
      go_roundw
      case rel =>
        refine ⟨k + 1, by omega, by go_num, _, ?_, Hb.out.putInt k _ (Int.emod_nonneg _ (by omega)) (Int.emod_lt_of_pos _ (by omega)), Bk.far Hbl.out (by simp) _, hB.setCell (by simp) _⟩
        rw [List.length_set, HD.out]
      case measure => simp [intOf]; omega
    · have hk : k = 108 := by omega
      subst hk
      have hld := ldK_bb hb hD
      have hst := stK_bb wr w.heap.size blank D hbl blank_len hD
      have Hb := Lib.hid hb
      have Hbl := Lib.hid hbl
      have HD := Lib.hid hD
      clear hb hbl hD
      go_wp2
      refine bodyPost_ret (results_cell_row rfl _ _ w.heap.size 60 (bvs D).toArray (0, 0) _ rfl (Bk.row Hbl.out _) Try.underlying60 rfl (size_blk HD.out)) rfl ⟨D, HD.out, rfl, hB.grown (grown_row _ _ _) hB.size (fun k hk => by injection hk with hk; omega)⟩
set_option maxRecDepth 100000 in
set_option maxHeartbeats 1000000 in
theorem keepFrame_any (a b c d n : Int) (w : World) : Calls Try.prog 25 #[.int .i64 a, .int .i64 b, .int .i64 c, .int .i64 d, .int .i64 n] w fun e w' => ∃ D : List UInt8, D.length = 108 ∧ e = .returned (.agg (Frm.cells ⟨a, b, c, d, D⟩)) ∧ Below w.heap.size w w' := by
  have hz := zero_frm
  go_enter Try.func25, Try.ntmps25
  go_wp2_with fail
  refine (block_any n _).mono ?_
  rintro e w1 ⟨D, hD, rfl, hb1⟩
  have hb : Bk w1 w.heap.size 38 zeroF.cells := (Bk.made w _ _).ext hb1
  have hbd := bdF_five a b c d D hD
  have hst := stF_bk w1 w.heap.size zeroF ⟨a, b, c, d, D⟩ hb blank_len hD
  have Hb := Lib.hid hb
  have hB := (below_new w (.cells zeroF.cells 38)).trans (below_le (by simp) hb1)
  clear hb hb1
  go_wp2
  refine bodyPost_ret (results_cell_row rfl _ _ w.heap.size 38 (Frm.cells ⟨a, b, c, d, D⟩) (0, 0) _ rfl (Bk.row Hb.out _) Try.underlying38 rfl (size_of (f := ⟨a, b, c, d, D⟩) hD)) rfl ⟨D, hD, rfl, hB.grown (grown_row _ _ _) hB.size (fun k hk => by injection hk with hk; omega)⟩
end Go.Proofs.Ytcggnphoekmoaaa
