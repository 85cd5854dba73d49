/-
  The document's marks: Set, where it refuses and where the mark is there.
-/
import Derived.Test.YtgigibkadbnplaaDoorMarkF
import Derived.Laws.CopyRow
namespace Go.Proofs.YtgigibkadbnplaaDoor
open Go.RowKit
attribute [local go_sem ↓] ldM_eq

theorem refName_at (s : ByteArray) (w : World) (b : Bool) (hs : s.size ≤ 9223372036854775807) (hb : nameOk s = b) :
    Calls Tryd.prog 17 #[.string s] w fun e w' => e = .returned (.bool b) ∧ w' = w := by
  rw [← hb]; exact refName_any s hs w
set_option maxRecDepth 100000 in
set_option maxHeartbeats 2000000 in
theorem refSet_bad (v : Value) (a t : ByteArray) (p o : Int) (w : World) (ha : a.size ≤ 9223372036854775807) (ht : t.size ≤ 9223372036854775807)
    (hbad : nameOk a = false ∨ (nameOk a = true ∧ nameOk t = false) ∨ (nameOk a = true ∧ nameOk t = true ∧ p < 0) ∨ (nameOk a = true ∧ nameOk t = true ∧ 0 ≤ p ∧ 4 ≤ p) ∨ (nameOk a = true ∧ nameOk t = true ∧ 0 ≤ p ∧ p < 4 ∧ o < 0)) :
    Calls Tryd.prog 19 #[v, .string a, .string t, .int .i64 p, .int .i64 o] w fun e w' => e = .returned (.int .i64 1) ∧ w' = w := by
  rcases hbad with h1 | ⟨h1, h2⟩ | ⟨h1, h2, h3⟩ | ⟨h1, h2, h3, h4⟩ | ⟨h1, h2, h3, h4, h5⟩
  case' inl =>
    have hN1 := Lib.hid (refName_at a w false ha h1)
    have hN2 := Lib.hid (refName_at t w (nameOk t) ht rfl)
  case' inr.inl =>
    have hN1 := Lib.hid (refName_at a w true ha h1)
    have hN2 := Lib.hid (refName_at t w false ht h2)
  case' inr.inr.inl =>
    have hN1 := Lib.hid (refName_at a w true ha h1)
    have hN2 := Lib.hid (refName_at t w true ht h2)
  case' inr.inr.inr.inl =>
    have hN1 := Lib.hid (refName_at a w true ha h1)
    have hN2 := Lib.hid (refName_at t w true ht h2)
  case' inr.inr.inr.inr =>
    have hN1 := Lib.hid (refName_at a w true ha h1)
    have hN2 := Lib.hid (refName_at t w true ht h2)
  all_goals
    clear ht ha h1
    (try clear h2)
    go_enter Tryd.func19, Tryd.ntmps19
    go_wp2_with (first | (go_at_call 17; (with_reducible refine hN1.out.mono ?_); rintro e w1 ⟨rfl, rfl⟩; clear hN1) | (go_at_call 17; (with_reducible refine hN2.out.mono ?_); rintro e w2 ⟨rfl, rfl⟩; clear hN2) | fail)
    go_ret
    exact ⟨rfl, rfl⟩
set_option maxRecDepth 100000 in
set_option maxHeartbeats 2000000 in
theorem refSet_full (B rg : Nat) (A : Option Addr) (c : Nat) (l : List Mk) (a t : ByteArray) (p o : Int) (w : World) (h : RefG w B rg A c l) (ha : nameOk a = true) (ht : nameOk t = true) (hp : 0 ≤ p) (hp' : p < 4) (ho : 0 ≤ o)
    (hf : findM l a t p = none) (hl : 32 ≤ l.length) :
    Calls Tryd.prog 19 #[.pointer (some ⟨rg, 0, none⟩), .string a, .string t, .int .i64 p, .int .i64 o] w fun e w' => e = .returned (.int .i64 8) ∧ Below w.heap.size w w' := by
  have hN1 := Lib.hid (refName_at a w true (by have := nameOk_le ha; omega) ha)
  have hN2 := Lib.hid (refName_at t w true (by have := nameOk_le ht; omega) ht)
  have hb := below_new w (.cells #[.string a, .string t, .int .i64 p, .int .i64 o] 66)
  have h1 := h.ext hb
  have hF := find_any rg A l.length c l a t p _ h1.cell h1.own.reads
  rw [show findI l a t p = -1 by unfold findI; rw [hf]] at hF
  have HF := Lib.hid hF
  have H1 := Lib.hid h1
  have hl32 : (32 : Int) ≤ l.length := by omega
  clear hF h1 h ha ht hf
  go_enter Tryd.func19, Tryd.ntmps19
  go_wp2_with (first | (go_at_call 17; (with_reducible refine hN1.out.mono ?_); rintro e w1 ⟨rfl, rfl⟩; clear hN1) | (go_at_call 17; (with_reducible refine hN2.out.mono ?_); rintro e w2 ⟨rfl, rfl⟩; clear hN2) | (go_at_call 29; (with_reducible refine HF.out.mono ?_); rintro e w3 ⟨rfl, hb3⟩; have hc3 := (H1.out.ext hb3).cell) | fail)
  go_ret
  exact ⟨rfl, hb.trans (below_le hb.size hb3)⟩
end Go.Proofs.YtgigibkadbnplaaDoor
