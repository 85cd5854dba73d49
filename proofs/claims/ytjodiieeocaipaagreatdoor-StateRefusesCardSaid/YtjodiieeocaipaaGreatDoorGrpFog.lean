/-
  The marks of consumer groups: Forget.
-/
import Derived.Test.YtjodiieeocaipaaGreatDoorGrpDel
namespace Go.Proofs.YtjodiieeocaipaaGreatDoor
open Go.RowKit Go.Maps

/-- without a topic's marks -/
noncomputable def lessOf (u : ByteArray) (D : DataW Unit) : DataW Unit := Lib.deleteFuncD (ofTopic u) D
theorem size_less (u : ByteArray) (D : DataW Unit) : Maps.size (lessOf u D) ≤ Maps.size D := by
  cases D with
  | map es => exact List.length_filter_le _ _
  | _ => exact Nat.le_refl _

set_option maxRecDepth 100000 in
set_option maxHeartbeats 1000000 in
theorem forget_any (g b : Nat) (D : DataW Unit) (u : ByteArray) (w : World) (h : Grp w g b D) (hu : u.size ≤ maxLen) (hs : Maps.size D ≤ 1000) :
    Calls Tryz.prog 81 #[.pointer (some ⟨g, 0, none⟩), .string u] w
      fun e w' => e = .returned (.int .i64 ((Maps.size D : Int) - (Maps.size (lessOf u D) : Int))) ∧ Grp w' g b (lessOf u D) ∧ w.grownBy w' (some b) := by
  have hle := size_less u D
  have hb := below_new w (.cells #[.string u] 9)
  have hG := h.ext hb
  have hbl := h.own.lt
  have hc := hG.cell
  have hl := hG.own.len Tryz.underlying96 3
  have hbk := Bk.made w 9 #[.string u]
  have hD := Lib.hid (dele_any u ⟨w.heap.size, 0, none⟩ b _ D _ hu ((hbk.cell 0).trans rfl) (by show w.heap.size ≠ b; omega) hG.own)
  have HG := Lib.hid hG
  clear h hG hbk
  go_enter Tryz.func81, Tryz.ntmps81
  go_wp2_with (first | (go_at_call 116; refine hD.out.mono ?_; rintro e w2 ⟨rfl, ho2, hg2⟩; have hG2 : Grp w2 g b (lessOf u D) := ⟨(hg2.block g HG.out.bk.lt (fun e => HG.out.ne (Option.some.inj e).symm)).trans HG.out.bk, HG.out.ne, own_tight ho2⟩; have hc2 := hG2.cell; have hl2 := hG2.own.len Tryz.underlying96 3; have HG2 := Lib.hid hG2; clear hG2 hD HG ho2 hc hl) | fail)
  go_ret
  exact ⟨rfl, HG2.out, ((grown_of_below hb).but _).trans hg2⟩

section
variable {D : DataW Unit} {k k' : Lit} {c : Int}
theorem markOf_same (hD : Maps.IsMap D) (hk : WideAt.IsKeyLit k) : markOf (D.put k (.lit (.int .i64 c))) k = c := by
  unfold markOf; rw [atKey_put_same hD hk]
theorem markOf_other (hne : k' ≠ k) (d : DataW Unit) : markOf (D.put k d) k' = markOf D k' := by
  unfold markOf; rw [atKey_put_other hne]
theorem mkey_isKey (a t : ByteArray) (p : Int) : WideAt.IsKeyLit (mkey a t p) := trivial
end
end Go.Proofs.YtjodiieeocaipaaGreatDoor
