/-
  gram: Right, wrong, in.
-/
import Derived.Test.YtjodiieeocaipaaGreatDoorEMem
import Derived.IntWalk
namespace Go.Proofs.YtjodiieeocaipaaGreatDoor
open Go.RowKit
attribute [local go_sem ↓] ldF_eq

set_option maxRecDepth 100000 in
set_option maxHeartbeats 400000 in
theorem index124 (g : Nat) (z : Int) (i : Int) (w : World) (hb : Bk w g 3 #[.int .i64 1, .int .i64 2, .int .i64 4]) (hz : (z = 1 ∧ i = 0) ∨ (z = 4 ∧ i = 2) ∨ (z = 8 ∧ i = -1)) :
    Calls Tryz.prog 143 #[.slice (some ⟨g, 0, none⟩) 3 3, .int .i64 z] w fun e w' => e = .returned (.int .i64 i) ∧ w = w' := by
  have c0 := hb.cell 0
  have c1 := hb.cell 1
  have c2 := hb.cell 2
  simp at c0 c1 c2
  rcases hz with ⟨rfl, rfl⟩ | ⟨rfl, rfl⟩ | ⟨rfl, rfl⟩
  all_goals
    go_enter Tryz.func143, Tryz.ntmps143
    go_wp2
    refine wp_loop_rounds 4 ?_
    rw [rounds_succ]
    go_wp2
    (try rw [rounds_succ])
    (try go_wp2)
    (try rw [rounds_succ])
    (try go_wp2)
    (try rw [rounds_succ])
    (try go_wp2)
    go_ret
    exact ⟨rfl, rfl⟩
set_option maxRecDepth 100000 in
theorem contains124 (g : Nat) (z : Int) (r : Bool) (w : World) (hb : Bk w g 3 #[.int .i64 1, .int .i64 2, .int .i64 4]) (hz : (z = 1 ∧ r = true) ∨ (z = 4 ∧ r = true) ∨ (z = 8 ∧ r = false)) :
    Calls Tryz.prog 130 #[.slice (some ⟨g, 0, none⟩) 3 3, .int .i64 z] w fun e w' => e = .returned (.bool r) ∧ w = w' := by
  have h1 : ∃ i : Int, ((z = 1 ∧ i = 0) ∨ (z = 4 ∧ i = 2) ∨ (z = 8 ∧ i = -1)) ∧ decide (0 ≤ i) = r := by
    rcases hz with ⟨rfl, rfl⟩ | ⟨rfl, rfl⟩ | ⟨rfl, rfl⟩
    · exact ⟨0, .inl ⟨rfl, rfl⟩, rfl⟩
    · exact ⟨2, .inr (.inl ⟨rfl, rfl⟩), rfl⟩
    · exact ⟨-1, .inr (.inr ⟨rfl, rfl⟩), rfl⟩
  obtain ⟨i, hi, hr⟩ := h1
  have hI := index124 g z i w hb hi
  go_enter Tryz.func130, Tryz.ntmps130
  go_wp2_with (first | (go_at_call 143; refine hI.mono ?_; rintro e w1 ⟨rfl, rfl⟩) | fail)
  go_ret
  exact ⟨rfl, rfl⟩
theorem Bk.made_at (w : World) (g : Nat) (t : TypeId) (cs : Array Value) (hg : g = w.heap.size) : Bk (w.alloc (.cells cs t)) g t cs := by
  subst hg
  exact Bk.made w t cs
def agF (k s lo hi m : Int) : Array Value := #[.int .i64 k, .int .i64 s, .int .i64 lo, .int .i64 hi, .int .i64 m]
set_option maxRecDepth 100000 in
set_option maxHeartbeats 1000000 in
theorem right_num8 (lo hi : Int) (h0 : 0 ≤ lo) (h1 : lo ≤ hi) (w : World) :
    Calls Tryz.prog 102 #[.agg #[.int .i64 1, .int .i64 8, .int .i64 lo, .int .i64 hi, .int .i64 0]] w fun e w' => e = .returned (.bool true) ∧ Below w.heap.size w w' := by
  have C8 := Lib.hid (fun w g hb => contains124 g 8 false w hb (.inr (.inr ⟨rfl, rfl⟩)))
  have hb0 := below_new w (.cells #[.int .i64 1, .int .i64 8, .int .i64 lo, .int .i64 hi, .int .i64 0] 154)
  have hb1 := hb0.trans (below_le hb0.size (below_new _ (.cells #[.int .i64 1, .int .i64 2, .int .i64 4] 3)))
  go_enter Tryz.func102, Tryz.ntmps102
  go_wp2_with (first | (go_at_call 130; refine (C8.out _ _ (Bk.made_at _ _ _ _ (by simp))).mono ?_; rintro e w1 ⟨rfl, rfl⟩) | fail)
  go_ret
  exact ⟨rfl, hb1⟩
set_option maxRecDepth 100000 in
set_option maxHeartbeats 1000000 in
theorem right_num4 (lo hi : Int) (h0 : 0 ≤ lo) (h1 : lo ≤ hi) (h2 : hi / 4294967296 = 0) (w : World) :
    Calls Tryz.prog 102 #[.agg #[.int .i64 1, .int .i64 4, .int .i64 lo, .int .i64 hi, .int .i64 0]] w fun e w' => e = .returned (.bool true) ∧ Below w.heap.size w w' := by
  have C8 := Lib.hid (fun w g hb => contains124 g 4 true w hb (.inr (.inl ⟨rfl, rfl⟩)))
  have hb0 := below_new w (.cells #[.int .i64 1, .int .i64 4, .int .i64 lo, .int .i64 hi, .int .i64 0] 154)
  have hb1 := hb0.trans (below_le hb0.size (below_new _ (.cells #[.int .i64 1, .int .i64 2, .int .i64 4] 3)))
  go_enter Tryz.func102, Tryz.ntmps102
  go_wp2_with (first | (go_at_call 130; refine (C8.out _ _ (Bk.made_at _ _ _ _ (by simp))).mono ?_; rintro e w1 ⟨rfl, rfl⟩) | fail)
  go_ret
  exact ⟨rfl, hb1⟩
set_option maxRecDepth 100000 in
set_option maxHeartbeats 1000000 in
theorem right_num1 (lo hi : Int) (h0 : 0 ≤ lo) (h1 : lo ≤ hi) (h2 : hi / 256 = 0) (w : World) :
    Calls Tryz.prog 102 #[.agg #[.int .i64 1, .int .i64 1, .int .i64 lo, .int .i64 hi, .int .i64 0]] w fun e w' => e = .returned (.bool true) ∧ Below w.heap.size w w' := by
  have C8 := Lib.hid (fun w g hb => contains124 g 1 true w hb (.inl ⟨rfl, rfl⟩))
  have hb0 := below_new w (.cells #[.int .i64 1, .int .i64 1, .int .i64 lo, .int .i64 hi, .int .i64 0] 154)
  have hb1 := hb0.trans (below_le hb0.size (below_new _ (.cells #[.int .i64 1, .int .i64 2, .int .i64 4] 3)))
  go_enter Tryz.func102, Tryz.ntmps102
  go_wp2_with (first | (go_at_call 130; refine (C8.out _ _ (Bk.made_at _ _ _ _ (by simp))).mono ?_; rintro e w1 ⟨rfl, rfl⟩) | fail)
  go_ret
  exact ⟨rfl, hb1⟩
set_option maxRecDepth 100000 in
set_option maxHeartbeats 1000000 in
theorem right_text (lo hi : Int) (h0 : 0 ≤ lo) (h1 : lo ≤ hi) (h2 : hi ≤ 65535) (w : World) :
    Calls Tryz.prog 102 #[.agg #[.int .i64 2, .int .i64 0, .int .i64 lo, .int .i64 hi, .int .i64 0]] w fun e w' => e = .returned (.bool true) ∧ Below w.heap.size w w' := by
  have hb0 := below_new w (.cells #[.int .i64 2, .int .i64 0, .int .i64 lo, .int .i64 hi, .int .i64 0] 154)
  go_enter Tryz.func102, Tryz.ntmps102
  go_wp2
  go_ret
  exact ⟨rfl, hb0⟩
set_option maxRecDepth 100000 in
set_option maxHeartbeats 1000000 in
theorem right_texts (lo hi m : Int) (h0 : 0 ≤ lo) (h1 : lo ≤ hi) (h2 : hi ≤ 255) (h3 : 0 ≤ m) (h4 : m ≤ 65535) (w : World) :
    Calls Tryz.prog 102 #[.agg #[.int .i64 3, .int .i64 0, .int .i64 lo, .int .i64 hi, .int .i64 m]] w fun e w' => e = .returned (.bool true) ∧ Below w.heap.size w w' := by
  have hb1 := below_new w (.cells #[.int .i64 3, .int .i64 0, .int .i64 lo, .int .i64 hi, .int .i64 0] 154)
  go_enter Tryz.func102, Tryz.ntmps102
  go_wp2
  go_ret
  exact ⟨ret_bool (decide_eq_true (by omega)), hb1⟩
/-- the fields that stand in rows -/
def someF : List Fld := [sF 1 24, sF 1 600, nF 1 1 4, nF 1 0 3, nF 8 0 9223372036854775807, nF 8 0 1125899906842624, nF 4 0 1048576, nF 8 0 1099511627776, ⟨3, 0, 1, 8, 60⟩]
theorem fRight_any (f : Fld) (hf : f ∈ someF) (w : World) :
    Calls Tryz.prog 102 #[.agg #[.int .i64 f.kind, .int .i64 f.size, .int .i64 f.lo, .int .i64 f.hi, .int .i64 f.most]] w fun e w' => e = .returned (.bool true) ∧ Below w.heap.size w w' := by
  unfold someF at hf
  simp only [List.mem_cons, List.not_mem_nil, or_false] at hf
  rcases hf with rfl | rfl | rfl | rfl | rfl | rfl | rfl | rfl | rfl
  · exact right_text 1 24 (by decide) (by decide) (by decide) w
  · exact right_text 1 600 (by decide) (by decide) (by decide) w
  · exact right_num1 1 4 (by decide) (by decide) (by decide) w
  · exact right_num1 0 3 (by decide) (by decide) (by decide) w
  · exact right_num8 0 _ (by decide) (by decide) w
  · exact right_num8 0 _ (by decide) (by decide) w
  · exact right_num4 0 _ (by decide) (by decide) (by decide) w
  · exact right_num8 0 _ (by decide) (by decide) w
  · exact right_texts 1 8 60 (by decide) (by decide) (by decide) (by decide) (by decide) w
theorem someF_good : ∀ f ∈ someF, GoodF f := by
  intro f hf
  unfold someF at hf
  simp only [List.mem_cons, List.not_mem_nil, or_false] at hf
  rcases hf with rfl | rfl | rfl | rfl | rfl | rfl | rfl | rfl | rfl
  · exact good_text (by decide) (by decide)
  · exact good_text (by decide) (by decide)
  · exact good_num (by decide) (by decide) (by decide) (by decide)
  · exact good_num (by decide) (by decide) (by decide) (by decide)
  · exact good_num (by decide) (by decide) (by decide) (by decide)
  · exact good_num (by decide) (by decide) (by decide) (by decide)
  · exact good_num (by decide) (by decide) (by decide) (by decide)
  · exact good_num (by decide) (by decide) (by decide) (by decide)
  · exact ⟨.inr (.inr ⟨rfl, by decide, by decide, by decide⟩)⟩
set_option maxRecDepth 100000 in
set_option maxHeartbeats 400000 in
theorem wrong1_any (f : Fld) (hf : f ∈ someF) (w : World) :
    Calls Tryz.prog 101 #[.agg #[.int .i64 f.kind, .int .i64 f.size, .int .i64 f.lo, .int .i64 f.hi, .int .i64 f.most]] w fun e w' => e = .returned (.bool false) ∧ Below w.heap.size w w' := by
  have hR := fRight_any f hf
  have hb0 := below_new w (.cells #[.int .i64 f.kind, .int .i64 f.size, .int .i64 f.lo, .int .i64 f.hi, .int .i64 f.most] 154)
  have hbk := Bk.made w 154 f.cells.toArray
  have hld := ldF_at (w := w.alloc (.cells #[.int .i64 f.kind, .int .i64 f.size, .int .i64 f.lo, .int .i64 f.hi, .int .i64 f.most] 154)) (g := w.heap.size) (o := 0) (f := f) (fun j u hu => by rw [Nat.zero_add]; exact (hbk.cell j).trans (by simpa using hu))
  clear hbk
  go_enter Tryz.func101, Tryz.ntmps101
  go_wp2_with (first | (go_at_call 102; refine (hR _).mono ?_; rintro e w1 ⟨rfl, hb1⟩) | fail)
  go_ret
  exact ⟨rfl, hb0.trans (below_le hb0.size hb1)⟩
set_option maxRecDepth 100000 in
set_option maxHeartbeats 400000 in
theorem wrongI_any (A : Option Addr) (n c : Nat) (fs : List Fld) (hf : ∀ f ∈ fs, f ∈ someF) (w : World) (h : RdF w A n c fs) :
    Calls Tryz.prog 100 #[.slice A n c, .func (.func 101) #[] #[]] w fun e w' => e = .returned (.int .i64 (-1)) ∧ Below w.heap.size w w' := by
  have hcap := h.cap
  have hbig := h.big
  have hlen := h.len
  rw [List.length_map] at hlen
  have HL := Lib.hid hlen
  have H := Lib.hid h
  have hb0 := Lib.hid (Below.refl w.heap.size w)
  have HF := Lib.hid hf
  clear h hf hlen
  go_enter Tryz.func100, Tryz.ntmps100
  go_wp2
  go_loopw [8] (fun i wr => ∃ k : Nat, k ≤ n ∧ i = .int .i64 k ∧ Below w.heap.size w wr) (fun i _ => n - (intOf i).toNat)
  case atStart => exact ⟨0, Nat.zero_le _, rfl, hb0.out⟩
  case round =>
    obtain ⟨k, hk, rfl, hbw⟩ := hrel
    have HBw := Lib.hid hbw
    clear hbw
    by_cases hlt : k < n
    · have hi : (k : Int) < n := by omega
      have hkl : k < fs.length := by have := HL.out; omega
      obtain ⟨f, hfk⟩ : ∃ f, fs[k]? = some f := ⟨fs[k], List.getElem?_eq_getElem hkl⟩
      obtain ⟨g, rfl, hgl, hce⟩ := (H.out.ext HBw.out).cell k f.cells (by rw [List.getElem?_map, hfk]; rfl)
      have hld := ldF_at hce
      have hW := Lib.hid (wrong1_any f (HF.out f (List.mem_of_getElem? hfk)))
      clear hce hfk hkl
      go_wp2_with (first | (go_at_call 101; refine (hW.out _).mono ?_; rintro e w1 ⟨rfl, hb1⟩) | fail)
      go_roundw
      case rel => exact ⟨k + 1, by omega, by go_num, HBw.out.trans (below_le HBw.out.size hb1)⟩
      case measure => simp [intOf]; omega
    · have hkn : k = n := by omega
      subst hkn
      go_wp2
      go_ret
      exact ⟨rfl, HBw.out⟩
set_option maxRecDepth 100000 in
theorem wrong_any (A : Option Addr) (n c : Nat) (fs : List Fld) (hf : ∀ f ∈ fs, f ∈ someF) (w : World) (h : RdF w A n c fs) :
    Calls Tryz.prog 71 #[.slice A n c] w fun e w' => e = .returned (.int .i64 (-1)) ∧ Below w.heap.size w w' := by
  have hI := wrongI_any A n c fs hf w h
  go_enter Tryz.func71, Tryz.ntmps71
  go_wp2_with (first | (go_at_call 100; refine hI.mono ?_; rintro e w1 ⟨rfl, hb1⟩) | fail)
  go_ret
  exact ⟨rfl, hb1⟩
set_option maxRecDepth 100000 in
theorem in_any (f : Fld) (z : Int) (w : World) :
    Calls Tryz.prog 103 #[.agg #[.int .i64 f.kind, .int .i64 f.size, .int .i64 f.lo, .int .i64 f.hi, .int .i64 f.most], .int .i64 z] w fun e w' => e = .returned (.bool (inF f z)) ∧ Below w.heap.size w w' := by
  have hb0 := below_new w (.cells #[.int .i64 f.kind, .int .i64 f.size, .int .i64 f.lo, .int .i64 f.hi, .int .i64 f.most] 154)
  unfold inF
  by_cases h1 : f.lo ≤ z
  · by_cases h2 : z ≤ f.hi
    · rw [decide_eq_true h1, decide_eq_true h2]
      go_enter Tryz.func103, Tryz.ntmps103
      go_wp2
      go_ret
      exact ⟨rfl, hb0⟩
    · rw [decide_eq_true h1, decide_eq_false h2]
      go_enter Tryz.func103, Tryz.ntmps103
      go_wp2
      go_ret
      exact ⟨rfl, hb0⟩
  · rw [decide_eq_false h1]
    go_enter Tryz.func103, Tryz.ntmps103
    go_wp2
    go_ret
    exact ⟨rfl, hb0⟩
end Go.Proofs.YtjodiieeocaipaaGreatDoor
