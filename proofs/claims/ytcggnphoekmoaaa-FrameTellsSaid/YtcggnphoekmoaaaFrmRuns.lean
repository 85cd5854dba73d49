/-
  The walk of the law FrameRuns.
-/
import Derived.Test.YtcggnphoekmoaaaFrmLaw
import Derived.Test.YtcggnphoekmoaaaBook
namespace Go.Proofs.Ytcggnphoekmoaaa
open Go.RowKit CrcMath
attribute [local go_sem] w8_nn w8_256 wrap_i64_w8 wrap64_w8 pastA_zero pastA_some
attribute [local go_sem ↓] sliced_past ldF_eq stF_eq bdF_eq

theorem same_at (A : Option Addr) (n c : Nat) (l : List UInt8) (A' : Option Addr) (n' c' : Nat) (l' : List UInt8) (w : World) (h : RdB w A n c l) (h' : RdB w A' n' c' l') (b : Bool) (hb : decide (l = l') = b) :
    Calls Try.prog 20 #[.slice A n c, .slice A' n' c'] w fun e w' => e = .returned (.bool b) ∧ Below w.heap.size w w' := by
  rw [← hb]
  refine (same_any A n c l A' n' c' l' w h h').mono ?_
  rintro e w' ⟨he, q, rfl⟩
  exact ⟨he, below_drawn (Below.refl _ _) q⟩
theorem RdB.const' (w : World) (g : Nat) (hg : g = w.heap.size) (l : List UInt8) (C : Array Value) (hC : C = (bvs l).toArray) (e : TypeId) (fr : Nat × Nat) (n : Nat) (hn : n = l.length) (hb : n ≤ 9223372036854775807) :
    RdB (w.alloc (.cells C e fr)) (some ⟨g, 0, none⟩) n n l := by
  subst hg
  exact RdB.const w l C hC e fr n hn hb
def runF : Frm := ⟨3, 2, 5, 7, blank⟩
theorem runF_right : runF.right = true := by decide
theorem runF_take : runF.put.take 16 = [0x53, 0x54, 3, 2, 5, 0, 0, 0, 7, 0, 0, 0, 0, 0, 0, 0] := by
  have e : runF.put = [0x53, 0x54, 3, 2, 5, 0, 0, 0, 7, 0, 0, 0, 0, 0, 0, 0] ++ (blank ++ leB 4 (on 0#32 runF.head).toNat) := by
    unfold Frm.put
    rw [show runF.head = [0x53, 0x54, 3, 2, 5, 0, 0, 0, 7, 0, 0, 0, 0, 0, 0, 0] ++ blank from rfl, List.append_assoc]
  rw [e]
  rfl
theorem got_wrong {l : List UInt8} (h : (frmOf l).right = false) : got l = false := by simp [got, h]
theorem zeros_got : got (List.replicate 128 0) = false := by
  have : (frmOf (List.replicate 128 0)).right = false := by
    unfold Frm.right
    rw [show inB (frmOf (List.replicate 128 0)).kind 1 3 = false from rfl]
    rfl
  exact got_wrong this
theorem zeros_reads (W : World) (g : Nat) (h : g = W.heap.size) : RdB (W.alloc (zeroBytes 128)) (some ⟨g, 0, none⟩) 128 128 (List.replicate 128 0) := by
  subst h
  exact (Bb.made W 128).whole 128 128 (by simp) (Nat.le_refl _) (by omega)
set_option maxRecDepth 100000 in
set_option maxHeartbeats 1000000 in
theorem frameRuns_any (w : World) : Calls Try.prog 6 #[] w fun e w' => e = .returned (.bool true) ∧ Below w.heap.size w w' := by
  have hz := zero_frm
  have hbd4 : ∀ w, (bdF #[(0, .int .i64 3), (1, .int .i64 2), (2, .int .i64 5), (3, .int .i64 7)]).run Try.prog w = .ok (.agg runF.cells) w := fun w => bdF_four 3 2 5 7 w
  have hst := stF_new w zeroF runF blank_len blank_len
  have hld := ldF_bk (Bk.made w 38 runF.cells) blank_len
  have hmk := mk_bytes 128 128 rfl (by omega)
  have heq : ∀ w, (Op.equalIn 10000 38 (.agg runF.cells) (.agg runF.cells)).run Try.prog w = .ok true w := fun w => by rw [eq_frm _ _ blank_len blank_len, (same_iff _ _).2 rfl]
  go_enter Try.func6, Try.ntmps6
  go_wp2_with fail
  refine (put_yes runF blank_len runF_right _).mono ?_
  rintro e w1 ⟨g, hg, rfl, hb, hb1⟩
  have hB1 := (below_new w (.cells runF.cells 38)).trans (below_le (by simp) hb1)
  have HF1 := Lib.hid ((Bk.made w 38 runF.cells).ext hb1)
  have Hb := Lib.hid hb
  have hG := get_any (some ⟨g, 0, none⟩) 128 128 runF.put w1 (hb.whole 128 128 (put_len blank_len).symm (Nat.le_refl _) (by omega))
  rw [gotF_put blank_len runF_right, got_put blank_len runF_right] at hG
  have HG := Lib.hid hG
  clear hb hb1 hst hld hG
  go_wp2_with fail
  refine HG.out.mono ?_
  rintro e w2 ⟨rfl, hb2⟩
  have hst2 := stF_new w2 zeroF runF blank_len blank_len
  have hZ := get_any (some ⟨w2.heap.size + 1, 0, none⟩) 128 128 (List.replicate 128 0) ((w2.alloc (.cells runF.cells 38)).alloc (zeroBytes 128)) (zeros_reads _ _ (by simp))
  rw [gotF_no zeros_got, zeros_got] at hZ
  have HZ := Lib.hid hZ
  clear hZ HG
  go_wp2_with fail
  refine HZ.out.mono ?_
  rintro e w3 ⟨rfl, hb3⟩
  have hst3 := stF_new w3 zeroF zeroF blank_len blank_len
  have hB23 : Below w2.heap.size w2 w3 := ((below_new w2 _).alloc (by simp) _).trans (below_le (by simp; omega) hb3)
  have hs3 := hB23.size
  have HR3 := Lib.hid ((((Hb.out.ext hb2).ext hB23)))
  clear HZ
  go_wp2_with fail
  refine (same_at (some ⟨g, 0, none⟩) 16 128 (runF.put.take 16) _ 16 16 [0x53, 0x54, 3, 2, 5, 0, 0, 0, 7, 0, 0, 0, 0, 0, 0, 0] _ ?_ ?_ true (decide_eq_true runF_take)).mono ?_
  · exact (((HR3.out.whole 128 128 (put_len blank_len).symm (Nat.le_refl _) (by omega)).upto 16 (by omega)).ext (below_new _ _)).ext (below_new _ _)
  · refine RdB.const' _ _ ?_ [0x53, 0x54, 3, 2, 5, 0, 0, 0, 7, 0, 0, 0, 0, 0, 0, 0] _ rfl 5 (0, 0) 16 rfl (by omega)
    simp
  rintro e w4 ⟨rfl, hb4⟩
  have hb34 : Below w3.heap.size w3 w4 := ((below_new w3 _).alloc (by simp) _).trans (below_le (by simp; omega) hb4)
  have hld1 := ldF_bk ((((HF1.out.ext hb2).ext hB23).ext hb34)) blank_len
  have hld2 := ldF_bk (((Bk.made w2 38 runF.cells).ext (below_le (by simp) (((below_new (w2.alloc (.cells runF.cells 38)) (zeroBytes 128)).trans (below_le (by simp) hb3))))).ext hb34) blank_len
  clear hb4
  go_wp2
  go_ret
  exact ⟨rfl, hB1.trans (below_le hB1.size (hb2.trans (below_le hb2.size (hB23.trans (below_le hs3 hb34)))))⟩
end Go.Proofs.Ytcggnphoekmoaaa
