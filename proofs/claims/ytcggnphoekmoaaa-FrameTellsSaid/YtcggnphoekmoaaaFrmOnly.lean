/-
  The walk of the law FrameOnly.
-/
import Derived.Test.YtcggnphoekmoaaaFrmRuns
import Derived.Test.YtcggnphoekmoaaaFrmOpen
namespace Go.Proofs.Ytcggnphoekmoaaa
open Go.RowKit CrcMath
attribute [local go_sem] w8_nn w8_256 wrap_i64_w8 wrap64_w8 pastA_zero pastA_some xor_u8
attribute [local go_sem ↓] sliced_past ldF_eq stF_eq bdF_eq

theorem OwnB.ext {w w' : World} {B : Nat} {v : Value} {l : List UInt8} (h : OwnB w B v l) (hb : Below w.heap.size w w') : OwnB w' B v l :=
  World.ownsRow.kept h ⟨hb.os, hb.tape, hb.output, hb.size, fun k hk _ => hb.block k hk⟩ (by cases v.ownBlock <;> simp) (row := none)
theorem below_news (w : World) (o : Obj) {B : Nat} {w0 : World} (h : Below B w0 w) (hB : B ≤ w.heap.size) : Below B w0 (w.alloc o) := h.alloc hB o
set_option maxRecDepth 100000 in
set_option maxHeartbeats 1000000 in
theorem frameOnly_any {H : Type} {enc : TypeId × Value → H} {base : Nat} {v0 v1 v2 v3 : Value} {d0 d1 d2 d3 : DataW H} {p0 p1 p2 p3 : List MemPlace} (w : World) (h0 : Came enc w base 38 v0 d0 p0) (h1 : Came enc w base 24 v1 d1 p1) (h2 : Came enc w base 3 v2 d2 p2) (h3 : Came enc w base 5 v3 d3 p3) :
    Calls Try.prog 11 #[v0, v1, v2, v3] w fun e w' => e = .returned (.bool true) ∧ Below w.heap.size w w' := by
  obtain ⟨f, rfl, hok⟩ := h0.frame
  obtain ⟨A, n, c, l, rfl, hrd⟩ := h1.bytes
  obtain ⟨z, rfl, hz1, hz2⟩ := h2.int
  obtain ⟨x, rfl⟩ := h3.u8
  clear h0 h1 h2 h3
  have hl := hok.len
  clear hok
  have hcap := hrd.cap
  have hbig := hrd.big
  obtain ⟨m, hmin, hmn, hm, _⟩ := cut_min n 128 (by omega)
  have hrm := hrd.upto m hmn
  generalize l.take m = L at hrm
  have HRD := Lib.hid hrm
  clear hrd hrm
  have hmc : m ≤ c := by omega
  have hz := zero_frm
  have hbd := bdF_none
  have hs1 : w.heap.size ≤ ((w.alloc (.cells f.cells 38)).alloc (.cells #[] 5)).heap.size := by simp; omega
  have hBb : Below w.heap.size w ((w.alloc (.cells f.cells 38)).alloc (.cells #[] 5)) := (below_new w _).alloc (by simp) _
  have hld := ldF_bk ((Bk.made w 38 f.cells).alloc (.cells #[] 5)) hl
  have hE := OwnB.empty' (w.alloc (.cells f.cells 38)) w.heap.size (w.heap.size + 1) (by simp) (by simp)
  have HE := Lib.hid hE
  clear hE
  cases hr : f.right
  case' false =>
    go_enter Try.func11, Try.ntmps11
    go_wp2_with fail
    refine (put_no f hl hr _).mono ?_
    rintro e w1 ⟨rfl, hb1⟩
    have hB1 := hBb.trans (below_le hs1 hb1)
    have hs2 := hB1.size
    go_wp2_with (at_builtin; (first | (refine wpList_append_bytes rfl (.tmp 12) (.tmp 14) rfl w.heap.size w _ [] rfl (OwnB.ext HE.out hb1) none 0 0 [] rfl (RdB.nil _) (by simp) hB1 hs2 0 rfl ?_; intro A2 c2 w2 hown2 hb2 hB2) | (refine wpList_append_bytes rfl (.tmp 19) (.tmp 24) rfl w.heap.size w _ [] rfl (OwnB.empty w2 w.heap.size hB2) A m c L rfl ((HRD.out.ext hb2).ext (below_new _ _)) (by simp; omega) (hb2.alloc hB2 _) (by simp; omega) m (by simp) ?_; intro A3 c3 w3 hown3 hb3 hB3) | fail))
    have HR := Lib.hid hown3.out.rd
    have hB := hb3
    rw [List.nil_append] at HR
    generalize L = T at HR
    clear hown2 hown3 hb2 hB2 hb3 hB3 hB1 hs2 hb1 HE HRD
  case' true =>
    go_enter Try.func11, Try.ntmps11
    go_wp2_with fail
    refine (put_yes f hl hr _).mono ?_
    rintro e w1 ⟨g, hg, rfl, hb, hb1⟩
    have hB1 := hBb.trans (below_le hs1 hb1)
    have hs2 := hB1.size
    have hpl := put_len hl
    go_wp2_with (at_builtin; refine wpList_append_more rfl (.tmp 12) (.tmp 14) rfl w.heap.size w _ [] rfl (OwnB.ext HE.out hb1) (some ⟨g, 0, none⟩) 128 128 f.put rfl (hb.whole 128 128 hpl.symm (Nat.le_refl _) (by omega)) (by simp) hB1 hs2 128 rfl (by omega) ?_; intro g2 cap w2 hg2 hroom hcb hown2 hb2 hB2)
    refine (within_nat _ _ _ (by omega) (by omega) hz1 hz2).mono ?_
    rintro e w2' ⟨k, rfl, hk, rfl⟩
    have ho2 := hown2.out
    rw [List.nil_append] at ho2
    obtain ⟨y, hy, hcy⟩ := ho2.get (i := k) (by omega)
    have hf := ho2.thaw k
    have hki : (k : Int) < 128 := by omega
    have ho3 := ho2.put k (y ^^^ x)
    have HR := Lib.hid (ho3.whole 128 cap (by simp [hpl]) hroom hcb)
    have hB := hb2.setCell (p := ⟨g2, k, none⟩) hg2 (.int .u8 (w8 (y ^^^ x)))
    generalize f.put.set k (y ^^^ x) = T at HR
    clear hown2 ho2 ho3 hb2 hB2 hB1 hs2 hb1 HE HRD hb
    go_wp2_with fail
  all_goals
    clear hld
    have hG := get_any _ _ _ T _ HR.out
    cases hgt : got T
    · rw [gotF_no hgt, hgt] at hG
      have heq : ∀ w, (Op.equalIn 10000 38 (.agg zeroF.cells) (.agg zeroF.cells)).run Try.prog w = .ok true w := fun w => by rw [eq_frm _ _ blank_len blank_len, (same_iff _ _).2 rfl]
      clear hgt
      refine hG.mono ?_
      rintro e w5 ⟨rfl, hb5⟩
      have hB5 := hB.trans (below_le hB.size hb5)
      have hB6 := hB5.alloc hB5.size (.cells zeroF.cells 38)
      have hst := stF_new w5 zeroF zeroF blank_len blank_len
      have hld5 := ldF_bk (Bk.made w5 38 zeroF.cells) blank_len
      clear hG hb5 HR
      go_wp2_with fail
      refine (frameRuns_any _).mono ?_
      rintro e w6 ⟨rfl, hb6⟩
      go_wp2
      go_ret
      exact ⟨rfl, hB6.trans (below_le hB6.size hb6)⟩
    · obtain ⟨htl, hrt, hpt⟩ := got_parts hgt
      have hdl := frmOf_len T htl
      rw [gotF_yes hgt, hgt] at hG
      have Hpt := Lib.hid hpt
      have Htl := Lib.hid htl
      clear hgt hpt htl
      refine hG.mono ?_
      rintro e w5 ⟨rfl, hb5⟩
      have hB5 := hB.trans (below_le hB.size hb5)
      have hB6 := hB5.alloc hB5.size (.cells (frmOf T).cells 38)
      have hst := stF_new w5 zeroF (frmOf T) blank_len hdl
      have hM := Bk.made w5 38 (frmOf T).cells
      have hld5 := ldF_bk hM hdl
      have HR5 := Lib.hid ((HR.out.ext hb5).ext (below_new w5 (.cells (frmOf T).cells 38)))
      have HM := Lib.hid hM
      clear hG hb5 HR hM
      go_wp2_with fail
      refine (right_any (frmOf T) _).mono ?_
      rw [hrt]
      rintro e w6 ⟨rfl, hb6⟩
      have hld6 := ldF_bk (HM.out.ext hb6) hdl
      have hB7 := hB6.trans (below_le hB6.size hb6)
      go_wp2_with fail
      refine (put_yes (frmOf T) hdl hrt _).mono ?_
      rintro e w7 ⟨g7, hg7, rfl, hb7, hb67⟩
      have hB8 := hB7.trans (below_le hB7.size hb67)
      go_wp2_with fail
      refine (same_at _ 128 128 (frmOf T).put _ _ _ T w7 (hb7.whole 128 128 (put_len hdl).symm (Nat.le_refl _) (by omega)) ((HR5.out.ext hb6).ext hb67) true (decide_eq_true Hpt.out)).mono ?_
      rintro e w8 ⟨rfl, hb8⟩
      have hB9 := hB8.trans (below_le hB8.size hb8)
      clear hb8 hb67 hb7 hb6
      go_wp2_with fail
      refine (frameRuns_any _).mono ?_
      rintro e w9 ⟨rfl, hb9⟩
      go_wp2
      go_ret
      exact ⟨rfl, hB9.trans (below_le hB9.size hb9)⟩
end Go.Proofs.Ytcggnphoekmoaaa
