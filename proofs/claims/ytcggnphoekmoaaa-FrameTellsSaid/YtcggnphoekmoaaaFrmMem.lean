/-
  A frame in memory: loads, stores, builds and comparisons of whole frames, each under a closed name, so that the walk does not take them apart cell by cell.
-/
import Derived.Test.YtcggnphoekmoaaaFrm
import Derived.Test.YtcggnphoekmoaaaFrm2
import Derived.Laws.ResultCell
import Derived.Stop.BytesEq
namespace Go.Proofs.Ytcggnphoekmoaaa
open Go.RowKit

def ldF (v : Value) : Sem Value := Instr.loadAt 38 v
theorem ldF_eq (v : Value) : Instr.loadAt 38 v = ldF v := rfl
def stF (p v : Value) : Sem Unit := Instr.storeAt 38 p v
theorem stF_eq (p v : Value) : Instr.storeAt 38 p v = stF p v := rfl
def bdF (parts : Array (Nat × Value)) : Sem Value := Instr.build 38 parts
theorem bdF_eq (parts : Array (Nat × Value)) : Instr.build 38 parts = bdF parts := rfl
def blank : List UInt8 := List.replicate 108 0
def zeroF : Frm := ⟨0, 0, 0, 0, blank⟩
theorem blank_len : blank.length = 108 := by simp [blank]
theorem size_frm : (Try.prog.info? 38).map (·.size) = some 112 := by kernel_rfl
theorem size_of {f : Frm} (hl : f.data.length = 108) : (Try.prog.info? 38).map (·.size) = some f.cells.size := by rw [size_frm, Frm.size hl]
theorem one_frm (f : Frm) : f.cells.all (·.oneCell') = true := by
  rw [Array.all_eq_true_iff_forall_mem]
  intro v hv
  simp only [Frm.cells, List.mem_toArray, List.mem_cons] at hv
  rcases hv with rfl | rfl | rfl | rfl | hv
  · rfl
  · rfl
  · rfl
  · rfl
  · obtain ⟨b, _, rfl⟩ := List.mem_map.1 hv
    rfl
theorem ldF_bk {w : World} {g : Nat} {f : Frm} (h : Bk w g 38 f.cells) (hl : f.data.length = 108) : (ldF (.pointer (some ⟨g, 0, none⟩))).run Try.prog w = .ok (.agg f.cells) w := by
  unfold ldF
  simp only [Instr.loadAt, Instr.sureAddr, Sem.run_bind, Sem.run_pure, Result.andThen_ok, run_loadVar_row w g _ _ f.cells (0, 0) _ h Try.underlying38 rfl (size_of hl)]
theorem setRow_new (w : World) (c c' : Array Value) (t : TypeId) : (w.alloc (.cells c t)).setRow w.heap.size c' = w.alloc (.cells c' t) := by
  simp only [World.setRow, World.alloc]
  congr 1
  apply Array.ext_getElem?
  intro i
  rw [Array.getElem?_modify]
  by_cases h : w.heap.size = i
  · subst h
    simp
  · have h' : ¬ i = w.heap.size := fun e => h e.symm
    simp [h, h', Array.getElem?_push]
theorem stF_new (w : World) (o f : Frm) (ho : o.data.length = 108) (hl : f.data.length = 108) :
    (stF (.pointer (some ⟨w.heap.size, 0, none⟩)) (.agg f.cells)).run Try.prog (w.alloc (.cells o.cells 38)) = .ok () (w.alloc (.cells f.cells 38)) := by
  unfold stF
  simp only [Instr.storeAt, Instr.sureAddr, Sem.run_bind, Sem.run_pure, Result.andThen_ok, run_storeVar_row _ _ _ _ o.cells f.cells (heap_alloc_new w _) (size_of hl) (by rw [Frm.size ho, Frm.size hl]) (one_frm f), setRow_new]
/-- a store into a block that is a frame -/
theorem stF_bk (w : World) (g : Nat) (o f : Frm) (h : Bk w g 38 o.cells) (ho : o.data.length = 108) (hl : f.data.length = 108) :
    (stF (.pointer (some ⟨g, 0, none⟩)) (.agg f.cells)).run Try.prog w = .ok () (w.setRow g f.cells) := by
  unfold stF
  simp only [Instr.storeAt, Instr.sureAddr, Sem.run_bind, Sem.run_pure, Result.andThen_ok, run_storeVar_row _ _ _ _ o.cells f.cells h (size_of hl) (by rw [Frm.size ho, Frm.size hl]) (one_frm f)]
/-- the same behind a draw -/
theorem stF_newd (w : World) (o f : Frm) (ho : o.data.length = 108) (hl : f.data.length = 108) :
    (stF (.pointer (some ⟨w.heap.size, 0, none⟩)) (.agg f.cells)).run Try.prog (w.alloc (.cells o.cells 38)).drew = .ok () (w.alloc (.cells f.cells 38)).drew := by
  rw [stF_bk _ w.heap.size o f (Bk.made w _ o.cells).drawn1 ho hl]
  have e : (w.alloc (.cells o.cells 38)).drew.setRow w.heap.size f.cells = ((w.alloc (.cells o.cells 38)).setRow w.heap.size f.cells).drew := rfl
  rw [e, setRow_new]
theorem Bk.row {w : World} {g : Nat} {t : TypeId} {o : Array Value} (h : Bk w g t o) (c : Array Value) : Bk (w.setRow g c) g t c := by
  unfold Bk at h ⊢
  exact setRow_heap w g o c t _ h
theorem grown_row (w : World) (g : Nat) (c : Array Value) : w.grownBy (w.setRow g c) (some g) :=
  ⟨rfl, rfl, rfl, by simp, fun k _ hk => setRow_other w g k c (fun e => hk (by rw [e]))⟩
theorem zero_frm (w : World) : (zeroValue 38).run Try.prog w = .ok (.agg zeroF.cells) w := by kernel_rfl
theorem bdF_none (w : World) : (bdF #[]).run Try.prog w = .ok (.agg zeroF.cells) w := by kernel_rfl
theorem bdF_four (a b c d : Int) (w : World) : (bdF #[(0, .int .i64 a), (1, .int .i64 b), (2, .int .i64 c), (3, .int .i64 d)]).run Try.prog w = .ok (.agg (Frm.cells ⟨a, b, c, d, blank⟩)) w := by kernel_rfl
/-- a frame's bytes -/
theorem Frm.reads {w : World} {g : Nat} {f : Frm} (h : Bk w g 38 f.cells) (hl : f.data.length = 108) : RdB w (some ⟨g, 4, none⟩) 108 108 f.data := by
  refine ⟨by rw [bvs_len, hl], Nat.le_refl _, by omega, fun k u hu => ⟨_, rfl, h.lt, ?_⟩⟩
  rw [Addr.add_none, Bk.cell h, ← hu]
  simp only [Frm.cells, List.getElem?_toArray]
  rw [show 4 + k = k + 4 by omega]
  rfl
def Frm.same (f g : Frm) : Bool := f.kind == g.kind && (f.slot == g.slot && (f.stripe == g.stripe && (f.gen == g.gen && f.data == g.data)))
theorem same_iff (f g : Frm) : f.same g = true ↔ f = g := by
  obtain ⟨a, b, c, d, e⟩ := f
  obtain ⟨a', b', c', d', e'⟩ := g
  simp [Frm.same]
theorem part_int (cs : Array Value) (i : Nat) (z : Int) (w : World) (h : cs[i]? = some (.int .i64 z)) : (part 3 cs i).run Try.prog w = .ok (.int .i64 z) w := by
  simp [part, isAgg, run_underlying Try.underlying3, h]
theorem part_data (f : Frm) (hl : f.data.length = 108) (w : World) : (part 36 f.cells 4).run Try.prog w = .ok (.agg (bvs f.data).toArray) w := by
  have hz : (sizeOf 36).run Try.prog w = .ok 108 w := by kernel_rfl
  have hb : (bvs f.data).length = 108 := by rw [bvs_len, hl]
  have e : f.cells.extract 4 (4 + 108) = (bvs f.data).toArray := by
    unfold Frm.cells
    simp [List.take_of_length_le (Nat.le_of_eq hb)]
  have ha : (isAgg 36).run Try.prog w = .ok true w := by simp [isAgg, run_underlying Try.underlying36]
  simp only [part, Sem.run_bind, ha, hz, Result.andThen_ok, if_true, Sem.run_pure, e]
theorem bvs_cell (l : List UInt8) : bvs l = l.map Extern.Stop.cell := rfl
theorem eq_data (d : Nat) (l r : List UInt8) (hl : l.length = 108) (hr : r.length = 108) (w : World) : (Op.equalIn (d + 2) 36 (.agg (bvs l).toArray) (.agg (bvs r).toArray)).run Try.prog w = .ok (l == r) w := by
  have hsz : ∀ w, (sizeOf 5).run Try.prog w = .ok 1 w := fun _ => by kernel_rfl
  rw [bvs_cell, bvs_cell]
  exact run_equalIn_bytes (P := Try.prog) w d 36 5 108 Try.underlying36 Try.underlying5 hsz l r hl hr
theorem eq_num (d : Nat) (a b : Int) (w : World) : (Op.equalIn (d + 2) 3 (.int .i64 a) (.int .i64 b)).run Try.prog w = .ok (a == b) w := run_equalIn_int w (d + 1) 3 .i64 .i64 a b Try.underlying3
theorem fields_frm : Try.prog.underlying 38 = some (.struct (Try.prog.fieldsOf 38)) := by
  unfold Program.fieldsOf
  rw [Try.underlying38]
theorem eqFields_cons {P : Program} {w : World} {d : Nat} {xs ys : Array Value} {f : Field} {fs : List Field} (hn : f.name ≠ "_") {a b : Value} {r : Bool} (ha : (part f.type xs f.offset).run P w = .ok a w) (hb : (part f.type ys f.offset).run P w = .ok b w)
    (hr : (Op.equalIn d f.type a b).run P w = .ok r w) {q : Bool} (hq : (Op.eqFields d xs ys fs).run P w = .ok q w) : (Op.eqFields d xs ys (f :: fs)).run P w = .ok (r && q) w := by
  unfold Op.eqFields
  rw [if_pos hn]
  simp only [Sem.run_bind, ha, hb, hr, Result.andThen_ok, Sem.run_ite, Sem.run_pure]
  cases r
  · simp
  · simp [hq]
theorem eqFields_nil {P : Program} {w : World} {d : Nat} {xs ys : Array Value} : (Op.eqFields d xs ys []).run P w = .ok true w := rfl
theorem eq_frm_d (d : Nat) (f g : Frm) (hf : f.data.length = 108) (hg : g.data.length = 108) (w : World) : (Op.equalIn (d + 3) 38 (.agg f.cells) (.agg g.cells)).run Try.prog w = .ok (f.same g) w := by
  rw [run_equalIn_struct w (d + 2) 38 f.cells g.cells fields_frm Try.stoodInHeld38]
  unfold Program.fieldsOf
  rw [Try.underlying38]
  have h5 := eqFields_cons (fs := []) (f := ⟨"Data", 36, 4, false, "", "", 32⟩) (by decide) (part_data f hf w) (part_data g hg w) (eq_data d f.data g.data hf hg w) eqFields_nil
  have h4 := eqFields_cons (f := ⟨"Gen", 3, 3, false, "", "", 24⟩) (by decide) (part_int f.cells 3 _ w f.c3) (part_int g.cells 3 _ w g.c3) (eq_num d _ _ w) h5
  have h3 := eqFields_cons (f := ⟨"Stripe", 3, 2, false, "", "", 16⟩) (by decide) (part_int f.cells 2 _ w f.c2) (part_int g.cells 2 _ w g.c2) (eq_num d _ _ w) h4
  have h2 := eqFields_cons (f := ⟨"Slot", 3, 1, false, "", "", 8⟩) (by decide) (part_int f.cells 1 _ w f.c1) (part_int g.cells 1 _ w g.c1) (eq_num d _ _ w) h3
  have h1 := eqFields_cons (f := ⟨"Kind", 3, 0, false, "", "", 0⟩) (by decide) (part_int f.cells 0 _ w f.c0) (part_int g.cells 0 _ w g.c0) (eq_num d _ _ w) h2
  refine Eq.trans h1 ?_
  rw [Bool.and_true]
  rfl
theorem eq_frm (f g : Frm) (hf : f.data.length = 108) (hg : g.data.length = 108) (w : World) : (Op.equalIn 10000 38 (.agg f.cells) (.agg g.cells)).run Try.prog w = .ok (f.same g) w := eq_frm_d 9997 f g hf hg w
end Go.Proofs.Ytcggnphoekmoaaa
