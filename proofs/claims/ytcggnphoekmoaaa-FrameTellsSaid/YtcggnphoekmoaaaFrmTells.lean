/-
  The walk of the law FrameTells.
-/
import Derived.Test.YtcggnphoekmoaaaFrmApart
import Derived.Test.YtcggnphoekmoaaaFrmRefG
namespace Go.Proofs.Ytcggnphoekmoaaa
open Go.RowKit CrcMath
attribute [local go_sem] w8_nn w8_256 wrap_i64_w8 wrap64_w8 pastA_zero pastA_some xor_u8
attribute [local go_sem ↓] sliced_past ldF_eq stF_eq bdF_eq

theorem refPut_any (f : Frm) (hl : f.data.length = 108) (w : World) :
    Calls Try.prog 23 #[.agg f.cells] w fun e w' => ∃ A n c, e = .returned (.slice A n c) ∧ RdB w' A n c (putL f) ∧ Below w.heap.size w w' := by
  cases hr : f.right
  · rw [putL_no hr]
    exact (refPut_no f hl hr w).mono fun e w' ⟨h1, h2⟩ => ⟨none, 0, 0, h1, RdB.nil _, h2⟩
  · rw [putL_yes hr]
    exact (refPut_yes f hl hr w).mono fun e w' ⟨A, c, h1, h2, h3⟩ => ⟨A, 128, c, h1, h2, h3⟩
set_option maxRecDepth 100000 in
set_option maxHeartbeats 1000000 in
theorem frameTells_any {H : Type} {enc : TypeId × Value → H} {base : Nat} {v0 v1 v2 v3 : Value} {d0 d1 d2 d3 : DataW H} {p0 p1 p2 p3 : List MemPlace} (w : World) (h0 : Came enc w base 38 v0 d0 p0) (h1 : Came enc w base 24 v1 d1 p1) (h2 : Came enc w base 3 v2 d2 p2) (h3 : Came enc w base 5 v3 d3 p3) :
    Calls Try.prog 7 #[v0, v1, v2, v3] w fun e w' => e = .returned (.bool true) ∧ Below w.heap.size w w' := by
  obtain ⟨f, rfl, hok⟩ := h0.frame
  obtain ⟨A, n, c, l, rfl, hrd⟩ := h1.bytes
  obtain ⟨z, rfl, hz1, hz2⟩ := h2.int
  obtain ⟨x, rfl⟩ := h3.u8
  clear h0 h1 h2 h3
  have hl := hok.len
  clear hok
  have hcap := hrd.cap
  have hbig := hrd.big
  obtain ⟨m, hmin, hmn, hm, _⟩ := cut_min n 140 (by omega)
  have hrm := hrd.upto m hmn
  generalize l.take m = L at hrm
  have HRD := Lib.hid hrm
  clear hrd hrm
  have hmc : m ≤ c := by omega
  have hz := zero_frm
  have hbd := bdF_none
  have hld := ldF_bk (Bk.made w 38 f.cells) hl
  go_enter Try.func7, Try.ntmps7
  go_wp2_with fail
  refine (put_any f hl _).mono ?_
  rintro e w1 ⟨A1, n1, c1, rfl, hr1, hb1⟩
  have hB1 := (below_new w (.cells f.cells 38)).trans (below_le (by simp) hb1)
  have hf1 := (Bk.made w 38 f.cells).ext hb1
  have FS : Hid (∀ w', Below w1.heap.size w1 w' → (Below w1.heap.size w1 w' ∧ (ldF (.pointer (some ⟨w.heap.size, 0, none⟩))).run Try.prog w' = .ok (.agg f.cells) w')) := fun w' hb => ⟨hb, ldF_bk (hf1.ext hb) hl⟩
  have H1 := Lib.hid hr1
  clear hr1 hb1 hf1 hld
  have hb0 := below_drew1 (Below.refl w1.heap.size w1)
  go_wp2_with fail
  go_region_held3 (fun w' => Below w1.heap.size w1 w' ∧ (ldF (.pointer (some ⟨w.heap.size, 0, none⟩))).run Try.prog w' = .ok (.agg f.cells) w') (first | exact FS.out _ hB5 | exact FS.out _ hB4 | exact FS.out _ hB3 | exact FS.out _ hB2 | exact FS.out _ hb0)
    (first | (go_at_call 21; (with_reducible refine (right_any f _).mono ?_); rintro e w2 ⟨rfl, hb2⟩; have hB2 : Below w1.heap.size w1 w2 := hb0.trans (below_le hb0.size hb2); clear hb2) | (go_at_call 22; (with_reducible refine (refRight_any f _).mono ?_); rintro e w3 ⟨rfl, hb3⟩; have hB3 : Below w1.heap.size w1 w3 := hB2.trans (below_le hB2.size hb3); clear hb3) | (go_at_call 23; (with_reducible refine (refPut_any f hl _).mono ?_); rintro e w4 ⟨A4, n4, c4, rfl, hr4, hb4⟩; have hB4 : Below w1.heap.size w1 w4 := hB3.trans (below_le hB3.size hb4); have H4 := Lib.hid hr4; clear hr4 hb4) | (go_at_call 20; (with_reducible refine (same_at _ n1 c1 (putL f) _ n4 c4 (putL f) _ (H1.out.ext hB4) H4.out true (decide_eq_true rfl)).mono ?_); rintro e w5 ⟨rfl, hb5⟩; have hB5 : Below w1.heap.size w1 w5 := hB4.trans (below_le hB4.size hb5); clear hb5) | fail)
  clear FS hb0 hB2 hB3 hB4 H4
  have hB := hB1.trans (below_le hB1.size hB5)
  have HP := Lib.hid (H1.out.ext hB5)
  have HL := Lib.hid (HRD.out.ext hB)
  clear H1 HRD hB1 hB5
  cases hr : f.right
  case' false =>
    obtain rfl : 0 = n1 := by rw [← HP.out.len, putL_no hr]; rfl
    go_wp2_with (at_builtin; refine wpList_append_bytes rfl (.tmp 30) (.tmp 35) rfl w5.heap.size w5 _ [] rfl (OwnB.empty w5 w5.heap.size (Nat.le_refl _)) A m c L rfl (HL.out.ext (below_new _ _)) (by simp; omega) (below_new _ _) (by simp) m (by simp) ?_; intro A6 c6 w6 hown6 hb6 hB6)
    have HR := Lib.hid hown6.out.rd
    rw [List.nil_append] at HR
    generalize L = T at HR
    have hBW := hB.trans (below_le hB.size hb6)
    obtain ⟨N, hN⟩ : ∃ N, N = m := ⟨_, rfl⟩
    have hN' : N ≤ 140 := by omega
    rw [← hN] at HR ⊢
    obtain ⟨w7, hw7⟩ : ∃ w7, w7 = w6 := ⟨_, rfl⟩
    rw [← hw7] at HR hBW ⊢
    clear hown6 HP HL hb6 hB6 hB hw7 hN
  case' true =>
    obtain rfl : 128 = n1 := by rw [← HP.out.len, putL_yes hr, put_len hl]
    rw [putL_yes hr] at HP
    have hpl := put_len hl
    go_wp2_with (at_builtin; (first | (refine wpList_append_bytes rfl (.tmp 30) (.tmp 35) rfl w5.heap.size w5 _ [] rfl (OwnB.empty w5 w5.heap.size (Nat.le_refl _)) A m c L rfl (HL.out.ext (below_new _ _)) (by simp; omega) (below_new _ _) (by simp) m (by simp) ?_; intro A6 c6 w6 hown6 hb6 hB6; clear hown6) | (refine wpList_append_more rfl (.tmp 40) (.tmp 41) rfl w6.heap.size w6 _ [] rfl (OwnB.empty w6 w6.heap.size (Nat.le_refl _)) A1 128 c1 f.put rfl ((HP.out.ext hb6).ext (below_new _ _)) (by simp) (below_new _ _) (by simp) 128 rfl (by omega) ?_; intro g7 cap w7 hg7 hroom hcb hown7 hb7 hB7) | fail))
    refine (within_nat _ _ _ (by omega) (by omega) hz1 hz2).mono ?_
    rintro e w7' ⟨k, rfl, hk, rfl⟩
    have ho7 := hown7.out
    rw [List.nil_append] at ho7
    obtain ⟨y, hy, hcy⟩ := ho7.get (i := k) (by omega)
    have hf := ho7.thaw k
    have hki : (k : Int) < 128 := by omega
    have ho3 := ho7.put k (y ^^^ x)
    have HR := Lib.hid (ho3.whole 128 cap (by simp [hpl]) hroom hcb)
    have hB6' := hB.trans (below_le hB.size hb6)
    have hB7' := hB6'.trans (below_le hB6'.size hb7)
    have hBW := hB7'.setCell (p := ⟨g7, k, none⟩) (show w.heap.size ≤ g7 from by have := hB6'.size; omega) (.int .u8 (w8 (y ^^^ x)))
    generalize f.put.set k (y ^^^ x) = T at HR
    clear hown7 ho7 ho3 hb6 hB6 hB6' hB7' hb7 hB7 hB HP HL hpl
    go_wp2_with fail
    obtain ⟨w9, hw9⟩ : ∃ t, t = w7.setCell ⟨g7, k, none⟩ (.int .u8 (w8 (y ^^^ x))) := ⟨_, rfl⟩
    obtain ⟨N, hN⟩ : ∃ N, N = 128 := ⟨_, rfl⟩
    have hN' : N ≤ 140 := by omega
    rw [← hw9] at HR hBW ⊢
    rw [← hN] at HR ⊢
    clear hw9 hN hcy hf
  all_goals
    have hlen := HR.out.len
    have hcp := HR.out.cap
    have hrl : (rep 80 (7 : UInt8)).length = 80 := rep_len 80 7
    refine (roomy_any _ _ _ T 7 _ HR.out (by omega)).mono ?_
    rintro e w8 ⟨rfl, hfull, hb8⟩
    have hF := hfull.reads 0 T.length (T.length + 80) (by rw [List.length_append, hrl]; omega) (by omega) (by omega)
    rw [List.drop_zero, List.take_append_of_le_length (Nat.le_refl _), List.take_length] at hF
    have hW := hfull.whole (T.length + 80) (T.length + 80) (by rw [List.length_append, hrl]) (Nat.le_refl _) (by omega)
    rw [hlen] at hF hW
    have HF8 := Lib.hid hF
    have HW8 := Lib.hid hW
    have HR8 := Lib.hid (HR.out.ext hb8)
    have hB8 := hBW.trans (below_le hBW.size hb8)
    clear hF hW hfull hb8 hBW HR
    have hdl := gotF_len T
    have heq : ∀ w, (Op.equalIn 10000 38 (.agg (gotF T).cells) (.agg (gotF T).cells)).run Try.prog w = .ok true w := fun w => by rw [eq_frm _ _ hdl hdl, (same_iff _ _).2 rfl]
    have HL8 := Lib.hid hlen
    clear hlen
    go_wp2_with fail
    have hG := get_any _ _ _ T _ HF8.out
    with_reducible refine hG.mono ?_
    clear hG
    rintro e w9 ⟨rfl, hb9⟩
    have hst := stF_new w9 zeroF (gotF T) blank_len hdl
    have hb9' := hb9.trans (below_le hb9.size (below_new w9 (.cells (gotF T).cells 38)))
    have HM9 := Lib.hid (Bk.made w9 38 (gotF T).cells)
    have HR9 := Lib.hid (HR8.out.ext hb9')
    have HW9 := Lib.hid (HW8.out.ext hb9')
    have hB9 := hB8.trans (below_le hB8.size hb9')
    clear hb9 hb9' HR8 HW8 HF8 hB8
    go_wp2_with fail
    have hG := refGet_any _ _ _ T _ HR9.out
    with_reducible refine hG.mono ?_
    clear hG
    rintro e w10 ⟨rfl, hb10⟩
    have hst2 := stF_new w10 zeroF (gotF T) blank_len hdl
    have hb10' := hb10.trans (below_le hb10.size (below_new w10 (.cells (gotF T).cells 38)))
    have hld10 := ldF_bk (Bk.made w10 38 (gotF T).cells) hdl
    have hld9 := ldF_bk (HM9.out.ext hb10') hdl
    have HR10 := Lib.hid (HR9.out.ext hb10')
    have HW10 := Lib.hid (HW9.out.ext hb10')
    have hB10 := hB9.trans (below_le hB9.size hb10')
    clear hb10 hb10' HR9 HW9 HM9 hB9 hst
    generalize got T = b
    go_wp2_with fail
    have hI := intact_any _ _ _ _ _ _ _ _ 7 _ HW10.out HR10.out (by omega)
    rw [decide_eq_true rfl, show Go.Proofs.Ytcggnphoekmoaaa.w8 7 = 7 from rfl] at hI
    with_reducible refine hI.mono ?_
    clear hI HW10 HR10
    rintro e w11 ⟨rfl, q, rfl⟩
    have hB11 := hB10.trans (below_le hB10.size (below_drawn (Below.refl _ _) q))
    clear hB10 hld9 hld10 hst2 heq
    go_wp2_with fail
    refine (frameRuns_any _).mono ?_
    rintro e w12 ⟨rfl, hb12⟩
    go_wp2
    go_ret
    exact ⟨rfl, hB11.trans (below_le hB11.size hb12)⟩
end Go.Proofs.Ytcggnphoekmoaaa
