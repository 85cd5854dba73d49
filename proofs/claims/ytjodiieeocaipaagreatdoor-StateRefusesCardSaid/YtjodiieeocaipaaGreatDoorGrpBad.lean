/-
  The marks of consumer groups: Set where it refuses.
-/
import Derived.Test.YtjodiieeocaipaaGreatDoorGrpSet
import Derived.Test.YtjodiieeocaipaaGreatDoorAErr
namespace Go.Proofs.YtjodiieeocaipaaGreatDoor
open Go.RowKit Go.Maps

/-- where Set's refusals come to be -/
def opSet : ByteArray := ⟨#[103, 114, 111, 117, 112, 46, 83, 101, 116]⟩
set_option maxRecDepth 100000 in
theorem wrap_any (op : ByteArray) (at_ k : Int) (w : World) : Calls Tryz.prog 26 #[.string op, .int .i64 at_, .iface 36 (.int .i64 k)] w fun e w' => e = .returned (faultV op at_ k) ∧ w' = w := by
  have he : ∀ w, (binOp .eql 27 (.iface 36 (.int .i64 k)) .nilIface).run Tryz.prog w = .ok (.bool false) w := fun w => by kernel_rfl
  go_enter Tryz.func26, Tryz.ntmps26
  go_wp2
  go_ret
  exact ⟨rfl, rfl⟩

set_option maxRecDepth 100000 in
set_option maxHeartbeats 2000000 in
theorem set_bad (v : Value) (a t : ByteArray) (p o : Int) (w : World) (ha : a.size ≤ 9223372036854775807) (ht : t.size ≤ 9223372036854775807)
    (hbad : nameOk a = false ∨ (nameOk a = true ∧ nameOk t = false) ∨ (nameOk a = true ∧ nameOk t = true ∧ p < 0) ∨ (nameOk a = true ∧ nameOk t = true ∧ 0 ≤ p ∧ 4 ≤ p) ∨ (nameOk a = true ∧ nameOk t = true ∧ 0 ≤ p ∧ p < 4 ∧ o < 0)) :
    Calls Tryz.prog 52 #[v, .string a, .string t, .int .i64 p, .int .i64 o] w fun e w' => e = .returned (faultV opSet p 1) ∧ Below w.heap.size w w' := by
  rcases hbad with h1 | ⟨h1, h2⟩ | ⟨h1, h2, h3⟩ | ⟨h1, h2, h3, h4⟩ | ⟨h1, h2, h3, h4, h5⟩
  case' inl =>
    have hN1 := Lib.hid (gname_at a w false ha h1)
    have hN2 := Lib.hid (fun w => gname_at t w (nameOk t) ht rfl)
  case' inr.inl =>
    have hN1 := Lib.hid (gname_at a w true ha h1)
    have hN2 := Lib.hid (fun w => gname_at t w false ht h2)
  case' inr.inr.inl =>
    have hN1 := Lib.hid (gname_at a w true ha h1)
    have hN2 := Lib.hid (fun w => gname_at t w true ht h2)
  case' inr.inr.inr.inl =>
    have hN1 := Lib.hid (gname_at a w true ha h1)
    have hN2 := Lib.hid (fun w => gname_at t w true ht h2)
  case' inr.inr.inr.inr =>
    have hN1 := Lib.hid (gname_at a w true ha h1)
    have hN2 := Lib.hid (fun w => gname_at t w true ht h2)
  all_goals
    have HT := Lib.hid ht
    clear ht ha h1
    (try clear h2)
    have hb0 := Below.refl w.heap.size w
    go_enter Tryz.func52, Tryz.ntmps52
    go_wp2_with (first | (go_at_call 26; (with_reducible refine (wrap_any ⟨#[103, 114, 111, 117, 112, 46, 83, 101, 116]⟩ p 1 _).mono ?_); rintro e w3 ⟨rfl, rfl⟩) | (go_at_call 47; (with_reducible refine hN1.out.mono ?_); rintro e w1 ⟨rfl, hb1⟩; have hb0 := hb1) | (go_at_call 47; (with_reducible refine (hN2.out _).mono ?_); rintro e w2 ⟨rfl, hb2⟩; have hb0 := hb1.trans (below_le hb1.size hb2)) | fail)
    go_ret
    exact ⟨rfl, hb0⟩

set_option maxRecDepth 100000 in
set_option maxHeartbeats 1000000 in
theorem set_full (g b : Nat) (D : DataW Unit) (a t : ByteArray) (p o : Int) (w : World) (h : Grp w g b D) (ha : nameOk a = true) (ht : nameOk t = true) (hp : 0 ≤ p) (hp' : p < 4) (ho : 0 ≤ o)
    (hr : Maps.has D (mkey a t p) = false) (hsz : 32 ≤ Maps.size D) :
    Calls Tryz.prog 52 #[.pointer (some ⟨g, 0, none⟩), .string a, .string t, .int .i64 p, .int .i64 o] w
      fun e w' => e = .returned (faultV opSet p 8) ∧ Below w.heap.size w w' := by
  have hla := nameOk_le ha
  have hlt := nameOk_le ht
  have hN1 := gname_at a w true (by omega) ha
  have hN2 := fun w => gname_at t w true (by omega) ht
  have HN2 := Lib.hid hN2
  have H := Lib.hid h
  have HR := Lib.hid hr
  clear hN2 h hr ha ht
  go_enter Tryz.func52, Tryz.ntmps52
  go_wp2_with (first | (go_at_call 47; refine hN1.mono ?_; clear hN1; rintro e w1 ⟨rfl, hb1⟩) | (go_at_call 47; refine (HN2.out _).mono ?_; rintro e w2 ⟨rfl, hb2⟩) | fail)
  have hk : keyOf Tryz.prog 134 (.agg #[.string a, .string t, .int .i64 p]) = some (mkey a t p) := key_is (by unfold maxLen; omega) (by unfold maxLen; omega) (wf_of (by omega) (by omega))
  have hG := ((H.out.ext hb1).ext hb2).ext (below_new w2 (.cells #[.string a, .string t, .int .i64 p] 134))
  have hbb := (hb1.trans (below_le hb1.size hb2)).trans (below_le (Nat.le_trans hb1.size hb2.size) (below_new w2 (.cells #[.string a, .string t, .int .i64 p] 134)))
  have hlk := hG.look hk
  have hlen := hG.many 3
  have hcell := hG.cell
  clear HN2 hb1 hb2 H hG hk
  have hge : ¬ ((Maps.size D : Int) < 32) := by omega
  have hge' : (32 : Int) ≤ (Maps.size D : Int) := by omega
  rw [HR.out] at hlk
  go_quiet (fail)
  clear hlk
  go_wp2_with (first | (go_at_call 26; (with_reducible refine (wrap_any ⟨#[103, 114, 111, 117, 112, 46, 83, 101, 116]⟩ p 8 _).mono ?_); rintro e w3 ⟨rfl, rfl⟩) | fail)
  go_ret
  exact ⟨rfl, below_drawn hbb _⟩
end Go.Proofs.YtjodiieeocaipaaGreatDoor
