/-
  The marks of consumer groups: Set.
-/
import Derived.Test.YtjodiieeocaipaaGreatDoorGrp
namespace Go.Proofs.YtjodiieeocaipaaGreatDoor
open Go.RowKit Go.Maps

theorem gname_at (s : ByteArray) (w : World) (b : Bool) (hs : s.size ≤ 9223372036854775807) (hb : nameOk s = b) :
    Calls Tryz.prog 47 #[.string s] w fun e w' => e = .returned (.bool b) ∧ Below w.heap.size w w' := by
  rw [← hb]; exact name_any s hs w
theorem wf_of {z : Int} (h : -9223372036854775808 ≤ z) (h' : z ≤ 9223372036854775807) : (Lit.int .i64 z).wf = true := by
  simp only [Lit.wf, Bool.and_eq_true, decide_eq_true_eq]; exact ⟨h, h'⟩
theorem nameOk_le {s : ByteArray} (h : nameOk s = true) : s.size ≤ 24 := by
  unfold nameOk at h
  simp only [Bool.and_eq_true, decide_eq_true_eq] at h
  exact h.1.2

set_option maxRecDepth 100000 in
set_option maxHeartbeats 1000000 in
theorem set_ok (g b : Nat) (D : DataW Unit) (a t : ByteArray) (p o : Int) (w : World) (h : Grp w g b D) (ha : nameOk a = true) (ht : nameOk t = true) (hp : 0 ≤ p) (hp' : p < 4) (ho : 0 ≤ o) (ho' : o ≤ 9223372036854775807)
    (hr : Maps.has D (mkey a t p) = true ∨ Maps.size D < 32) (hsz : Maps.size D ≤ 1000) :
    Calls Tryz.prog 52 #[.pointer (some ⟨g, 0, none⟩), .string a, .string t, .int .i64 p, .int .i64 o] w
      fun e w' => e = .returned .nilIface ∧ Grp w' g b (D.put (mkey a t p) (.lit (.int .i64 o))) ∧ w.grownBy w' (some b) := by
  have hla := nameOk_le ha
  have hlt := nameOk_le ht
  have hN1 := gname_at a w true (by omega) ha
  have hN2 := fun w => gname_at t w true (by omega) ht
  have HN2 := Lib.hid hN2
  have H := Lib.hid h
  have HR := Lib.hid hr
  clear hN2 h hr ha ht
  go_enter Tryz.func52, Tryz.ntmps52
  go_wp2_with (first | (go_at_call 47; refine hN1.mono ?_; clear hN1; rintro e w1 ⟨rfl, hb1⟩) | (go_at_call 47; refine (HN2.out _).mono ?_; rintro e w2 ⟨rfl, hb2⟩) | fail)
  have hk : keyOf Tryz.prog 134 (.agg #[.string a, .string t, .int .i64 p]) = some (mkey a t p) := key_is (by unfold maxLen; omega) (by unfold maxLen; omega) (wf_of (by omega) (by omega))
  have hG := ((H.out.ext hb1).ext hb2).ext (below_new w2 (.cells #[.string a, .string t, .int .i64 p] 134))
  have hbb := (hb1.trans (below_le hb1.size hb2)).trans (below_le (Nat.le_trans hb1.size hb2.size) (below_new w2 (.cells #[.string a, .string t, .int .i64 p] 134)))
  have hlk := hG.look hk
  have hlen := hG.many 3
  have hcell := hG.cell
  clear HN2 hb1 hb2 H
  have hup := fun q => (hG.drawn q).own.update law_key Tryz.underlying96 (by unfold maxLen; omega) hk (plainElem_int Tryz.underlying3 (wf_of (z := o) (by omega) (by omega)))
  obtain ⟨f, hf⟩ := Classical.axiomOfChoice hup
  have hrun := fun q => (hf q).1
  have HF := Lib.hid hf
  have HG := Lib.hid hG
  clear hup hf hG hk
  cases hh : Maps.has D (mkey a t p)
  case' false =>
    have hlt : (Maps.size D : Int) < 32 := by
      rcases HR.out with h | h
      · rw [hh] at h; cases h
      · omega
  all_goals
    rw [hh] at hlk
    clear HR
    go_quiet (fail)
    clear hlk
    go_wp2_with fail
    clear hlen
    go_region
    obtain ⟨_, ho1, hg1⟩ := HF.out (nq + 1)
    clear hrun hcell HF
    generalize f (nq + 1) = w5 at ho1 hg1
    go_wp2_with fail
    go_ret
    have h2 := HG.out.drawn (nq + 1)
    have h3 : w.grownBy ((w2.alloc (.cells #[.string a, .string t, .int .i64 p] 134)).drewN (nq + 1)) (some b) := (grown_of_below (below_drawn hbb (nq + 1))).but (some b)
    exact ⟨rfl, ⟨(hg1.block g h2.bk.lt (fun e => h2.ne (Option.some.inj e).symm)).trans h2.bk, h2.ne, own_tight ho1⟩, h3.trans hg1⟩
end Go.Proofs.YtjodiieeocaipaaGreatDoor
