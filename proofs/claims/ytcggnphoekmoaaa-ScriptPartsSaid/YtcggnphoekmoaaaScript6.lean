/-
  The walks of the laws ScriptRuns and ScriptTells.
-/
import Derived.Test.YtcggnphoekmoaaaScript5
import Derived.Test.YtcggnphoekmoaaaBook
import Derived.Test.YtcggnphoekmoaaaOpen
namespace Go.Proofs.Ytcggnphoekmoaaa
open Go.RowKit
attribute [local go_sem] w8_nn w8_256 wrap_i64_w8 wrap64_w8

def runBytes : List UInt8 := [1, 0, 0, 0, 8, 5, 3, 9]
def runSteps : List Stp := [⟨2, 0, 0, 0, 0, 0#32, [], []⟩, ⟨9, 0, 5, 3, 9, 9#32, [], []⟩]
set_option maxRecDepth 100000 in
theorem run_steps : stepsOf runBytes = runSteps := by
  rfl

/-- a step of no bits and no bytes as a row -/
def plain (s : Stp) : SRow := ⟨s, none, 0, 0, none, 0, 0⟩
theorem RdS.news (w : World) (l : List Stp) (hb : ∀ s ∈ l, s.bits = [] ∧ s.bytes = []) (cs : Array Value) (hcs : cs = ((l.map plain).flatMap SRow.cells).toArray) (t : TypeId) (n : Nat) (hn : l.length = n) (hs : n ≤ 1000000) :
    RdS (w.alloc (.cells cs t)) (some ⟨w.heap.size, 0, none⟩) n n l := by
  refine ⟨hn, Nat.le_refl _, by omega, fun k s hk => ?_⟩
  have hm : s ∈ l := List.mem_of_getElem? hk
  have hp : (l.map plain)[k]? = some (plain s) := by rw [List.getElem?_map, hk]; rfl
  refine ⟨_, plain s, rfl, by simp, rfl, ?_, ?_, fun j u hu => cells_new w t _ cs _ hcs _ rfl _ _ (flat_get _ k j _ u hp hu)⟩
  · rw [(hb s hm).1]; exact Rd.nil _ _
  · rw [(hb s hm).2]; exact RdB.nil _

set_option maxRecDepth 100000 in
set_option maxHeartbeats 1000000 in
theorem scriptRuns_any (w : World) : Calls Try.prog 3 #[] w fun e w' => e = .returned (.bool true) ∧ Below w.heap.size w w' := by
  go_enter Try.func3, Try.ntmps3
  go_wp2_with fail
  have hb1 := below_new w (.cells (bvs runBytes).toArray 5 (0, 0))
  refine (decode_any _ 8 8 runBytes _ (RdB.const w runBytes _ rfl 5 (0, 0) 8 rfl (by omega)) (by omega)).mono ?_
  rintro e w1 ⟨A, N, c, rfl, hown, hb⟩
  have hB := hb1.trans (hb.mono hb1.size)
  have hS := hown.reads
  rw [run_steps] at hS
  obtain rfl : 2 = N := hS.1
  have HS := Lib.hid hS
  clear hown hS hb hb1
  go_wp2_with fail
  refine (steps_same _ 2 _ _ 2 runSteps _ (HS.out.ext (below_new _ _)) (RdS.news w1 runSteps (by simp [runSteps]) _ rfl 29 2 rfl (by omega))).mono ?_
  rintro e w2 ⟨rfl, hb2⟩
  have hs := hB.size
  go_wp2_with fail
  go_ret
  exact ⟨rfl, hB.trans (below_le hs ((below_new _ _).trans (below_le (by simp) hb2)))⟩

set_option maxRecDepth 100000 in
set_option maxHeartbeats 1000000 in
theorem scriptTells_any {H : Type} {enc : TypeId × Value → H} {base : Nat} {v0 : Value} {d0 : DataW H} {p0 : List MemPlace} (w : World) (h0 : Came enc w base 24 v0 d0 p0) :
    Calls Try.prog 4 #[v0] w fun e w' => e = .returned (.bool true) ∧ Below w.heap.size w w' := by
  obtain ⟨A, n, c, l, rfl, hr⟩ := h0.bytes
  clear h0
  have hcap := hr.cap
  have hbig := hr.big
  obtain ⟨m, hmin, hmn, hm, _⟩ := cut_min n 400 (by omega)
  have hr2 := hr.upto m hmn
  generalize l.take m = L at hr2
  clear hr
  have hmc : m ≤ c := by omega
  go_enter Try.func4, Try.ntmps4
  go_wp2_with fail
  refine (roomy_any _ _ _ _ 7 _ hr2 (by omega)).mono ?_
  rintro e w2 ⟨rfl, hfull, hb2⟩
  have Hfull := Lib.hid hfull
  clear hfull
  have hA := hr2.ext hb2
  have hF := Hfull.out.reads 0 m (m + 80) (by rw [List.length_append, hr2.len, rep_len]; omega) (by omega) (by omega)
  rw [List.drop_zero, List.take_append_of_le_length (by rw [hr2.len]; exact Nat.le_refl _), ← hr2.len, List.take_length, hr2.len] at hF
  have hW := Hfull.out.whole (m + 80) (m + 80) (by rw [List.length_append, hr2.len, rep_len]) (Nat.le_refl _) (by omega)
  have HF := Lib.hid hF
  have HA := Lib.hid hA
  have HW := Lib.hid hW
  clear hF hA hW hr2
  go_wp2_with fail
  refine (decode_any _ _ _ L _ HF.out (by omega)).mono ?_
  rintro e w3 ⟨A1, N1, c1, rfl, hown1, hb3⟩
  have H1 := Lib.hid hown1.reads
  clear hown1
  go_wp2_with fail
  refine (refDecode_any _ _ _ L _ (HA.out.ext hb3) (by omega)).mono ?_
  rintro e w4 ⟨A2, N2, c2, rfl, hown2, hb4⟩
  have H2 := Lib.hid hown2.reads
  clear hown2
  obtain rfl : N1 = N2 := by rw [← H1.out.1, ← H2.out.1]
  go_wp2_with fail
  refine (steps_same _ _ _ _ _ _ _ (H1.out.ext hb4) H2.out).mono ?_
  rintro e w5 ⟨rfl, hb5⟩
  have s3 := hb2.size
  have s4 := hb3.size
  have s5 := hb4.size
  have hb25 : Below w2.heap.size w2 w5 := (hb3.trans (below_le s4 hb4)).trans (below_le (Nat.le_trans s4 s5) hb5)
  have hb05 := hb2.trans (below_le s3 hb25)
  have hInt1 := intact_any _ _ _ _ _ _ _ _ 7 w5 (HW.out.ext hb25) (HA.out.ext hb25) (by omega)
  rw [decide_eq_true rfl, show w8 7 = 7 from rfl] at hInt1
  have s6 := hb5.size
  clear hb3 hb4 hb5
  go_wp2_with fail
  refine hInt1.mono ?_
  clear hInt1
  rintro e w6 ⟨rfl, q, rfl⟩
  go_wp2_with fail
  refine (scriptRuns_any _).mono ?_
  rintro e w7 ⟨rfl, hb7⟩
  go_wp2
  go_ret
  exact ⟨rfl, hb05.trans (below_le (by simp; omega) ((below_drawn (Below.refl _ _) _).trans hb7))⟩
end Go.Proofs.Ytcggnphoekmoaaa
