/-
  The marks of consumer groups: New, Len, Get, Set.
-/
import Derived.Test.YtjodiieeocaipaaGreatDoorGrpName
import Derived.Test.YtjodiieeocaipaaGreatDoorCut
namespace Go.Proofs.YtjodiieeocaipaaGreatDoor
open Go.RowKit Go.Maps

section
variable {w w' : World} {g b : Nat} {D : DataW Unit}
/-- the Groups behind the pointer to block g hold the map of block b, which reads as D -/
structure Grp (w : World) (g b : Nat) (D : DataW Unit) : Prop where
  bk : Bk w g 98 #[.map (some b)]
  ne : b ≠ g
  own : w.ownsMap Tryz.prog 134 (plainElem Tryz.prog 3) b (Maps.size D) D
theorem own_tight {n : Nat} (h : w.ownsMap Tryz.prog 134 (plainElem Tryz.prog 3) b n D) : w.ownsMap Tryz.prog 134 (plainElem Tryz.prog 3) b (Maps.size D) D := by
  obtain ⟨es, clock, h1, h2, h3, rfl⟩ := h
  exact ⟨es, clock, h1, h2, by rw [Maps.size_eq, length_read]; exact Nat.le_refl _, rfl⟩
theorem Grp.keep (h : Grp w g b D) {row : Option Nat} (hg : w.grownBy w' row) (hb : some b ≠ row) (hg' : some g ≠ row) : Grp w' g b D :=
  ⟨(hg.block g h.bk.lt hg').trans h.bk, h.ne, h.own.kept hg hb⟩
theorem Grp.ext (h : Grp w g b D) (hb : Below w.heap.size w w') : Grp w' g b D := h.keep (grown_of_below hb) (by simp) (by simp)
theorem Grp.drawn (h : Grp w g b D) (k : Nat) : Grp (w.drewN k) g b D := ⟨h.bk, h.ne, h.own⟩
theorem Grp.cell (h : Grp w g b D) : w.cell? ⟨g, 0, none⟩ = some (.map (some b)) := (h.bk.cell 0).trans rfl
theorem Grp.tidy (h : Grp w g b D) : Maps.Tidy D := h.own.tidy law_key
end

/-- a mark's offset; 0 where there is none -/
def markOf (D : DataW Unit) (k : Lit) : Int := match D.atKey k (.lit (.int .i64 0)) with | .lit (.int _ c) => c | _ => 0
theorem zero_mark (w : World) : (zeroValue 3).run Tryz.prog w = .ok (.int .i64 0) w := by kernel_rfl

theorem Grp.look {w : World} {g b : Nat} {D : DataW Unit} (h : Grp w g b D) {key : Value} {kl : Lit} (hk : keyOf Tryz.prog 134 key = some kl) (q : Nat) :
    (Instr.lookup 96 (.map (some b)) key true).run Tryz.prog (w.drewN q) = .ok (.tuple #[.int .i64 (markOf D kl), .bool (Maps.has D kl)]) (w.drewN q) := by
  obtain ⟨v, ps, hlk, hv⟩ := (h.drawn q).own.look_ok law_key Tryz.underlying96 (zero_mark _) (plainElem_int Tryz.underlying3 (by decide)) hk
  obtain ⟨c, rfl, hc, _⟩ := plainElem_int_inv Tryz.underlying3 hv
  have hf : D.atKey kl (.lit (.int .i64 0)) = .lit (.int .i64 c) := congrArg Prod.fst hc
  have hm : markOf D kl = c := by unfold markOf; rw [hf]
  rw [hm]; exact hlk
theorem Grp.many {w : World} {g b : Nat} {D : DataW Unit} (h : Grp w g b D) (ty : TypeId) (q : Nat) :
    (Builtin.len_ #[96] ty #[.map (some b)]).run Tryz.prog (w.drewN q) = .ok (.int .i64 (Maps.size D)) (w.drewN q) := (h.drawn q).own.len Tryz.underlying96 ty
set_option maxRecDepth 100000 in
theorem new_any (w : World) : Calls Tryz.prog 24 #[] w fun e w' => e = .returned (.pointer (some ⟨w.heap.size + 1, 0, none⟩)) ∧ Grp w' (w.heap.size + 1) w.heap.size (.map []) ∧ Below w.heap.size w w' := by
  have hmm := @run_makeMap Tryz.prog
  go_enter Tryz.func24, Tryz.ntmps24
  go_wp2
  go_ret
  have hs : (w.alloc (.map #[] 0)).heap.size = w.heap.size + 1 := by simp
  have ho := World.ownsMap_made (H := Unit) w Tryz.prog 134 (plainElem Tryz.prog 3)
  refine ⟨rfl, ⟨?_, by omega, ho.alloc _⟩, (below_new w _).trans (below_le (by simp) (below_new _ _))⟩
  have := Bk.made (w.alloc (.map #[] 0)) 98 #[.map (some w.heap.size)]
  rwa [hs] at this

set_option maxRecDepth 100000 in
theorem mark_any (g b : Nat) (D : DataW Unit) (a t : ByteArray) (p : Int) (w : World) (h : Grp w g b D) (ha : a.size ≤ maxLen) (ht : t.size ≤ maxLen) (hp : (Lit.int .i64 p).wf = true) :
    Calls Tryz.prog 32 #[.pointer (some ⟨g, 0, none⟩), .string a, .string t, .int .i64 p] w
      fun e w' => e = .returned (.tuple #[.int .i64 (markOf D (mkey a t p)), .bool (Maps.has D (mkey a t p))]) ∧ w' = w := by
  have hc := h.cell
  have hkey := key_is ha ht hp
  go_enter Tryz.func32, Tryz.ntmps32
  go_wp2_with (first | (at_lookup; refine wpList_lookup_own_ok_int _ rfl _ _ 96 rfl 134 3 .i64 law_key Tryz.underlying96 Tryz.underlying3 (zero_mark _) b _ D rfl h.own _ _ rfl hkey ?_; intro c hat hwc) | go_in)
  go_ret2
  have hm : markOf D (mkey a t p) = c := by unfold markOf; rw [hat]
  rw [hm]
  exact ⟨rfl, rfl⟩
end Go.Proofs.YtjodiieeocaipaaGreatDoor
