/-
  The marks of consumer groups: Forget; what a chapter's runs say.
-/
import Derived.Test.YtgigibkadbnplaaDoorGrpDel
namespace Go.Proofs.YtgigibkadbnplaaDoor
open Go.RowKit Go.Maps

/-- without a topic's marks -/
noncomputable def lessOf (u : ByteArray) (D : DataW Unit) : DataW Unit := Lib.deleteFuncD (ofTopic u) D
theorem size_less (u : ByteArray) (D : DataW Unit) : Maps.size (lessOf u D) ≤ Maps.size D := by
  cases D with
  | map es => exact List.length_filter_le _ _
  | _ => exact Nat.le_refl _

set_option maxRecDepth 100000 in
set_option maxHeartbeats 1000000 in
theorem forget_any (g b : Nat) (D : DataW Unit) (u : ByteArray) (w : World) (h : Grp w g b D) (hu : u.size ≤ maxLen) (hs : Maps.size D ≤ 1000) :
    Calls Tryd.prog 12 #[.pointer (some ⟨g, 0, none⟩), .string u] w
      fun e w' => e = .returned (.int .i64 ((Maps.size D : Int) - (Maps.size (lessOf u D) : Int))) ∧ Grp w' g b (lessOf u D) ∧ w.grownBy w' (some b) := by
  have hle := size_less u D
  have hb := below_new w (.cells #[.string u] 9)
  have hG := h.ext hb
  have hbl := h.own.lt
  have hc := hG.cell
  have hl := hG.own.len Tryd.underlying53 3
  have hbk := Bk.made w 9 #[.string u]
  have hD := Lib.hid (dele_any u ⟨w.heap.size, 0, none⟩ b _ D _ hu ((hbk.cell 0).trans rfl) (by show w.heap.size ≠ b; omega) hG.own)
  have HG := Lib.hid hG
  clear h hG hbk
  go_enter Tryd.func12, Tryd.ntmps12
  go_wp2_with (first | (go_at_call 24; refine hD.out.mono ?_; rintro e w2 ⟨rfl, ho2, hg2⟩; have hG2 : Grp w2 g b (lessOf u D) := ⟨(hg2.block g HG.out.bk.lt (fun e => HG.out.ne (Option.some.inj e).symm)).trans HG.out.bk, HG.out.ne, own_tight ho2⟩; have hc2 := hG2.cell; have hl2 := hG2.own.len Tryd.underlying53 3; have HG2 := Lib.hid hG2; clear hG2 hD HG ho2 hc hl) | fail)
  go_ret
  exact ⟨rfl, HG2.out, ((grown_of_below hb).but _).trans hg2⟩

section
variable {D : DataW Unit} {k k' : Lit} {c : Int}
theorem markOf_same (hD : Maps.IsMap D) (hk : WideAt.IsKeyLit k) : markOf (D.put k (.lit (.int .i64 c))) k = c := by
  unfold markOf; rw [atKey_put_same hD hk]
theorem markOf_other (hne : k' ≠ k) (d : DataW Unit) : markOf (D.put k d) k' = markOf D k' := by
  unfold markOf; rw [atKey_put_other hne]
theorem mkey_isKey (a t : ByteArray) (p : Int) : WideAt.IsKeyLit (mkey a t p) := trivial
theorem less_none {w : World} {g b : Nat} {u : ByteArray} (h : Grp w g b D) (ha : ∀ k d, Maps.has D k = true → ofTopic u k d = true) : Maps.size (lessOf u D) = 0 := by
  obtain ⟨es, rfl, _, hkeys⟩ := h.own.entries law_key
  unfold lessOf Lib.deleteFuncD
  rw [Maps.size_eq]
  rw [List.length_eq_zero_iff, List.filter_eq_nil_iff]
  intro p hp
  have : Maps.has (.map es) p.1 = true := List.any_eq_true.2 ⟨p, hp, WideAt.sameKey_self (hkeys p hp)⟩
  rw [ha _ _ this]; decide
end

/-- the texts of the runs -/
def tA : ByteArray := ⟨#[97]⟩
def tB : ByteArray := ⟨#[98]⟩
def tT : ByteArray := ⟨#[116]⟩
theorem kA_kB : mkey tA tT 0 ≠ mkey tB tT 1 := fun e => by
  have := (mkey_inj (by decide) (by decide) (by decide) (by decide) (by decide) (by decide) e).2.2
  omega
def D1 : DataW Unit := (DataW.map []).put (mkey tA tT 0) (.lit (.int .i64 5))
def D2 : DataW Unit := D1.put (mkey tA tT 0) (.lit (.int .i64 3))
def D3 : DataW Unit := D2.put (mkey tB tT 1) (.lit (.int .i64 9))
theorem tidy1 : Maps.Tidy D1 := tidy_empty.put (mkey_isKey _ _ _) _
theorem tidy2 : Maps.Tidy D2 := tidy1.put (mkey_isKey _ _ _) _
theorem has1 : Maps.has D1 (mkey tA tT 0) = true := has_put_same isMap_empty (mkey_isKey _ _ _) _
theorem size1 : Maps.size D1 = 1 := by
  have h := size_put (k := mkey tA tT 0) (tidy_empty (H := Unit)) (.lit (.int .i64 5))
  rw [show Maps.has (DataW.map [] : DataW Unit) (mkey tA tT 0) = false from rfl] at h
  exact h
theorem size2 : Maps.size D2 = 1 := by
  have h := size_put (k := mkey tA tT 0) tidy1 (.lit (.int .i64 3))
  rw [has1, size1] at h
  exact h
theorem has2 : Maps.has D2 (mkey tB tT 1) = false := by
  unfold D2 D1
  rw [has_put_other kA_kB.symm, has_put_other kA_kB.symm]
  rfl
theorem size3 : Maps.size D3 = 2 := by
  have h := size_put (k := mkey tB tT 1) tidy2 (.lit (.int .i64 9))
  rw [has2, size2] at h
  exact h
theorem has3 : Maps.has D3 (mkey tA tT 0) = true := by
  unfold D3
  rw [has_put_other kA_kB]
  exact has_put_same tidy1.isMap (mkey_isKey _ _ _) _
theorem mark3 : markOf D3 (mkey tA tT 0) = 3 := by
  unfold D3
  rw [markOf_other kA_kB]
  exact markOf_same tidy1.isMap (mkey_isKey _ _ _)
theorem all3 (k : Lit) (d : DataW Unit) (h : Maps.has D3 k = true) : ofTopic tT k d = true := by
  by_cases hb : k = mkey tB tT 1
  · subst hb; rw [ofTopic_key (by decide) (by decide) (by decide) (by decide)]; decide
  by_cases ha : k = mkey tA tT 0
  · subst ha; rw [ofTopic_key (by decide) (by decide) (by decide) (by decide)]; decide
  unfold D3 D2 D1 at h
  rw [has_put_other hb, has_put_other ha, has_put_other ha] at h
  cases h

set_option maxRecDepth 100000 in
set_option maxHeartbeats 2000000 in
theorem groupRuns_any (w : World) : Calls Tryd.prog 3 #[] w fun e w' => e = .returned (.bool true) ∧ Below w.heap.size w w' := by
  have hN := Lib.hid (new_any w)
  go_enter Tryd.func3, Tryd.ntmps3
  go_wp2_with fail
  refine hN.out.mono ?_
  rintro e w1 ⟨rfl, hG, hb1⟩
  clear hN
  obtain ⟨g, hg⟩ : ∃ g, g = w.heap.size + 1 := ⟨_, rfl⟩
  obtain ⟨b, hbw⟩ : ∃ b, b = w.heap.size := ⟨_, rfl⟩
  rw [← hg, ← hbw] at hG
  rw [← hg]
  have hS := Lib.hid (set_ok g b _ tA tT 0 5 w1 hG (by decide) (by decide) (by omega) (by omega) (by omega) (by omega) (.inr (by decide)) (by decide))
  clear hG hg
  go_wp2_with fail
  refine hS.out.mono ?_
  rintro e w2 ⟨rfl, hG, hg2⟩
  have hB2 := below_grown hb1 hb1.size hg2 (by omega)
  have hS := Lib.hid (set_ok g b D1 tA tT 0 3 w2 hG (by decide) (by decide) (by omega) (by omega) (by omega) (by omega) (.inl has1) (by rw [size1]; omega))
  clear hG hb1 hg2
  go_wp2_with fail
  refine hS.out.mono ?_
  rintro e w3 ⟨rfl, hG, hg3⟩
  have hB3 := below_grown hB2 hB2.size hg3 (by omega)
  have hS := Lib.hid (set_ok g b D2 tB tT 1 9 w3 hG (by decide) (by decide) (by omega) (by omega) (by omega) (by omega) (.inr (by rw [size2]; omega)) (by rw [size2]; omega))
  clear hG hB2 hg3
  go_wp2_with fail
  refine hS.out.mono ?_
  rintro e w4 ⟨rfl, hG, hg4⟩
  have hB4 := below_grown hB3 hB3.size hg4 (by omega)
  have hS := mark_any g b D3 tA tT 0 w4 hG (by decide) (by decide) (by decide)
  rw [has3, mark3] at hS
  have HS := Lib.hid hS
  have HG : Hid (Grp w4 g b D3) := Lib.hid hG
  clear hG hB3 hg4 hS
  go_wp2_with fail
  refine HS.out.mono ?_
  rintro e w5 ⟨rfl, rfl⟩
  have hS := len_any g b D3 w5 HG.out
  rw [size3] at hS
  have HS := Lib.hid hS
  clear hS
  go_wp2_with fail
  refine HS.out.mono ?_
  rintro e w6 ⟨rfl, rfl⟩
  have hS := forget_any g b D3 tT w6 HG.out (by decide) (by rw [size3]; omega)
  have h0 : Maps.size (lessOf tT D3) = 0 := less_none HG.out all3
  rw [size3, h0] at hS
  have HS := Lib.hid hS
  clear hS HG
  go_wp2_with fail
  refine HS.out.mono ?_
  rintro e w7 ⟨rfl, hG, hg7⟩
  have hB7 := below_grown hB4 hB4.size hg7 (by omega)
  have hS := len_any g b _ w7 hG
  rw [h0] at hS
  have HS := Lib.hid hS
  clear hS hG hB4 h0 hg7
  go_wp2_with fail
  refine HS.out.mono ?_
  rintro e w8 ⟨rfl, rfl⟩
  have HS := Lib.hid (name_at ⟨#[]⟩ w8 false (by decide) (by decide))
  go_wp2_with fail
  refine HS.out.mono ?_
  rintro e w9 ⟨rfl, hb9⟩
  have hB9 := hB7.trans (below_le hB7.size hb9)
  have HS := Lib.hid (name_at ⟨#[65]⟩ w9 false (by decide) (by decide))
  clear hb9 hB7
  go_wp2_with fail
  refine HS.out.mono ?_
  rintro e w10 ⟨rfl, hb10⟩
  go_wp2_with fail
  go_ret
  exact ⟨rfl, hB9.trans (below_le hB9.size hb10)⟩
end Go.Proofs.YtgigibkadbnplaaDoor
