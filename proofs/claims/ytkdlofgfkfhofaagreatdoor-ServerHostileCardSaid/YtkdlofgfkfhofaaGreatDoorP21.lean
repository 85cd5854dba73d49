import Derived.Test.YtkdlofgfkfhofaaGreatDoorP20
import Derived.IntWalk
/-
  gram: Right, wrong, in.
-/
namespace Go.Proofs.YtkdlofgfkfhofaaGreatDoor
open Go.RowKit
attribute [local go_sem ↓] ldF_eq

set_option maxRecDepth 100000 in
set_option maxHeartbeats 400000 in
theorem index124 (g : Nat) (z : Int) (i : Int) (w : World) (hb : Bk w g 3 #[.int .i64 1, .int .i64 2, .int .i64 4]) (hz : (z = 1 ∧ i = 0) ∨ (z = 4 ∧ i = 2) ∨ (z = 8 ∧ i = -1)) :
    Calls Tryz.prog 112 #[.slice (some ⟨g, 0, none⟩) 3 3, .int .i64 z] w fun e w' => e = .returned (.int .i64 i) ∧ w = w' := by
  have c0 := hb.cell 0
  have c1 := hb.cell 1
  have c2 := hb.cell 2
  simp at c0 c1 c2
  rcases hz with ⟨rfl, rfl⟩ | ⟨rfl, rfl⟩ | ⟨rfl, rfl⟩
  all_goals
    go_enter Tryz.func112, Tryz.ntmps112
    go_wp2
    refine wp_loop_rounds 4 ?_
    rw [rounds_succ]
    go_wp2
    (try rw [rounds_succ])
    (try go_wp2)
    (try rw [rounds_succ])
    (try go_wp2)
    (try rw [rounds_succ])
    (try go_wp2)
    go_ret
    exact ⟨rfl, rfl⟩
set_option maxRecDepth 100000 in
theorem contains124 (g : Nat) (z : Int) (r : Bool) (w : World) (hb : Bk w g 3 #[.int .i64 1, .int .i64 2, .int .i64 4]) (hz : (z = 1 ∧ r = true) ∨ (z = 4 ∧ r = true) ∨ (z = 8 ∧ r = false)) :
    Calls Tryz.prog 66 #[.slice (some ⟨g, 0, none⟩) 3 3, .int .i64 z] w fun e w' => e = .returned (.bool r) ∧ w = w' := by
  have h1 : ∃ i : Int, ((z = 1 ∧ i = 0) ∨ (z = 4 ∧ i = 2) ∨ (z = 8 ∧ i = -1)) ∧ decide (0 ≤ i) = r := by
    rcases hz with ⟨rfl, rfl⟩ | ⟨rfl, rfl⟩ | ⟨rfl, rfl⟩
    · exact ⟨0, .inl ⟨rfl, rfl⟩, rfl⟩
    · exact ⟨2, .inr (.inl ⟨rfl, rfl⟩), rfl⟩
    · exact ⟨-1, .inr (.inr ⟨rfl, rfl⟩), rfl⟩
  obtain ⟨i, hi, hr⟩ := h1
  have hI := index124 g z i w hb hi
  go_enter Tryz.func66, Tryz.ntmps66
  go_wp2_with (first | (go_at_call 112; refine hI.mono ?_; rintro e w1 ⟨rfl, rfl⟩) | fail)
  go_ret
  exact ⟨rfl, rfl⟩
theorem Bk.made_at (w : World) (g : Nat) (t : TypeId) (cs : Array Value) (hg : g = w.heap.size) : Bk (w.alloc (.cells cs t)) g t cs := by
  subst hg
  exact Bk.made w t cs
def agF (k s lo hi m : Int) : Array Value := #[.int .i64 k, .int .i64 s, .int .i64 lo, .int .i64 hi, .int .i64 m]
set_option maxRecDepth 100000 in
set_option maxHeartbeats 1000000 in
theorem right_num8 (lo hi : Int) (h0 : 0 ≤ lo) (h1 : lo ≤ hi) (w : World) :
    Calls Tryz.prog 156 #[.agg #[.int .i64 1, .int .i64 8, .int .i64 lo, .int .i64 hi, .int .i64 0]] w fun e w' => e = .returned (.bool true) ∧ Below w.heap.size w w' := by
  have C8 := Lib.hid (fun w g hb => contains124 g 8 false w hb (.inr (.inr ⟨rfl, rfl⟩)))
  have hb0 := below_new w (.cells #[.int .i64 1, .int .i64 8, .int .i64 lo, .int .i64 hi, .int .i64 0] 193)
  have hb1 := hb0.trans (below_le hb0.size (below_new _ (.cells #[.int .i64 1, .int .i64 2, .int .i64 4] 3)))
  go_enter Tryz.func156, Tryz.ntmps156
  go_wp2_with (first | (go_at_call 66; refine (C8.out _ _ (Bk.made_at _ _ _ _ (by simp))).mono ?_; rintro e w1 ⟨rfl, rfl⟩) | fail)
  go_ret
  exact ⟨rfl, hb1⟩
set_option maxRecDepth 100000 in
set_option maxHeartbeats 1000000 in
theorem right_num4 (lo hi : Int) (h0 : 0 ≤ lo) (h1 : lo ≤ hi) (h2 : hi / 4294967296 = 0) (w : World) :
    Calls Tryz.prog 156 #[.agg #[.int .i64 1, .int .i64 4, .int .i64 lo, .int .i64 hi, .int .i64 0]] w fun e w' => e = .returned (.bool true) ∧ Below w.heap.size w w' := by
  have C8 := Lib.hid (fun w g hb => contains124 g 4 true w hb (.inr (.inl ⟨rfl, rfl⟩)))
  have hb0 := below_new w (.cells #[.int .i64 1, .int .i64 4, .int .i64 lo, .int .i64 hi, .int .i64 0] 193)
  have hb1 := hb0.trans (below_le hb0.size (below_new _ (.cells #[.int .i64 1, .int .i64 2, .int .i64 4] 3)))
  go_enter Tryz.func156, Tryz.ntmps156
  go_wp2_with (first | (go_at_call 66; refine (C8.out _ _ (Bk.made_at _ _ _ _ (by simp))).mono ?_; rintro e w1 ⟨rfl, rfl⟩) | fail)
  go_ret
  exact ⟨rfl, hb1⟩
set_option maxRecDepth 100000 in
set_option maxHeartbeats 1000000 in
theorem right_num1 (lo hi : Int) (h0 : 0 ≤ lo) (h1 : lo ≤ hi) (h2 : hi / 256 = 0) (w : World) :
    Calls Tryz.prog 156 #[.agg #[.int .i64 1, .int .i64 1, .int .i64 lo, .int .i64 hi, .int .i64 0]] w fun e w' => e = .returned (.bool true) ∧ Below w.heap.size w w' := by
  have C8 := Lib.hid (fun w g hb => contains124 g 1 true w hb (.inl ⟨rfl, rfl⟩))
  have hb0 := below_new w (.cells #[.int .i64 1, .int .i64 1, .int .i64 lo, .int .i64 hi, .int .i64 0] 193)
  have hb1 := hb0.trans (below_le hb0.size (below_new _ (.cells #[.int .i64 1, .int .i64 2, .int .i64 4] 3)))
  go_enter Tryz.func156, Tryz.ntmps156
  go_wp2_with (first | (go_at_call 66; refine (C8.out _ _ (Bk.made_at _ _ _ _ (by simp))).mono ?_; rintro e w1 ⟨rfl, rfl⟩) | fail)
  go_ret
  exact ⟨rfl, hb1⟩
set_option maxRecDepth 100000 in
set_option maxHeartbeats 1000000 in
theorem right_text (lo hi : Int) (h0 : 0 ≤ lo) (h1 : lo ≤ hi) (h2 : hi ≤ 65535) (w : World) :
    Calls Tryz.prog 156 #[.agg #[.int .i64 2, .int .i64 0, .int .i64 lo, .int .i64 hi, .int .i64 0]] w fun e w' => e = .returned (.bool true) ∧ Below w.heap.size w w' := by
  have hb0 := below_new w (.cells #[.int .i64 2, .int .i64 0, .int .i64 lo, .int .i64 hi, .int .i64 0] 193)
  go_enter Tryz.func156, Tryz.ntmps156
  go_wp2
  go_ret
  exact ⟨rfl, hb0⟩
set_option maxRecDepth 100000 in
set_option maxHeartbeats 1000000 in
theorem right_texts (lo hi m : Int) (h0 : 0 ≤ lo) (h1 : lo ≤ hi) (h2 : hi ≤ 255) (h3 : 0 ≤ m) (h4 : m ≤ 65535) (w : World) :
    Calls Tryz.prog 156 #[.agg #[.int .i64 3, .int .i64 0, .int .i64 lo, .int .i64 hi, .int .i64 m]] w fun e w' => e = .returned (.bool true) ∧ Below w.heap.size w w' := by
  have hb1 := below_new w (.cells #[.int .i64 3, .int .i64 0, .int .i64 lo, .int .i64 hi, .int .i64 0] 193)
  go_enter Tryz.func156, Tryz.ntmps156
  go_wp2
  go_ret
  exact ⟨ret_bool (decide_eq_true (by omega)), hb1⟩
/-- the fields that stand in rows -/
def someF : List Fld := [sF 1 24, sF 1 600, nF 1 1 4, nF 1 0 3, nF 8 0 9223372036854775807, nF 8 0 1125899906842624, nF 4 0 1048576, nF 8 0 1099511627776, ⟨3, 0, 1, 8, 60⟩, nF 4 0 4294967295, nF 1 0 255, ⟨3, 0, 0, 8, 24⟩, ⟨3, 0, 0, 4, 608⟩]
theorem fRight_any (f : Fld) (hf : f ∈ someF) (w : World) :
    Calls Tryz.prog 156 #[.agg #[.int .i64 f.kind, .int .i64 f.size, .int .i64 f.lo, .int .i64 f.hi, .int .i64 f.most]] w fun e w' => e = .returned (.bool true) ∧ Below w.heap.size w w' := by
  unfold someF at hf
  simp only [List.mem_cons, List.not_mem_nil, or_false] at hf
  rcases hf with rfl | rfl | rfl | rfl | rfl | rfl | rfl | rfl | rfl | rfl | rfl | rfl | rfl
  · exact right_text 1 24 (by decide) (by decide) (by decide) w
  · exact right_text 1 600 (by decide) (by decide) (by decide) w
  · exact right_num1 1 4 (by decide) (by decide) (by decide) w
  · exact right_num1 0 3 (by decide) (by decide) (by decide) w
  · exact right_num8 0 _ (by decide) (by decide) w
  · exact right_num8 0 _ (by decide) (by decide) w
  · exact right_num4 0 _ (by decide) (by decide) (by decide) w
  · exact right_num8 0 _ (by decide) (by decide) w
  · exact right_texts 1 8 60 (by decide) (by decide) (by decide) (by decide) (by decide) w
  · exact right_num4 0 _ (by decide) (by decide) (by decide) w
  · exact right_num1 0 255 (by decide) (by decide) (by decide) w
  · exact right_texts 0 8 24 (by decide) (by decide) (by decide) (by decide) (by decide) w
  · exact right_texts 0 4 608 (by decide) (by decide) (by decide) (by decide) (by decide) w
theorem someF_good : ∀ f ∈ someF, GoodF f := by
  intro f hf
  unfold someF at hf
  simp only [List.mem_cons, List.not_mem_nil, or_false] at hf
  rcases hf with rfl | rfl | rfl | rfl | rfl | rfl | rfl | rfl | rfl | rfl | rfl | rfl | rfl
  · exact good_text (by decide) (by decide)
  · exact good_text (by decide) (by decide)
  · exact good_num (by decide) (by decide) (by decide) (by decide)
  · exact good_num (by decide) (by decide) (by decide) (by decide)
  · exact good_num (by decide) (by decide) (by decide) (by decide)
  · exact good_num (by decide) (by decide) (by decide) (by decide)
  · exact good_num (by decide) (by decide) (by decide) (by decide)
  · exact good_num (by decide) (by decide) (by decide) (by decide)
  · exact ⟨.inr (.inr ⟨rfl, by decide, by decide, by decide⟩)⟩
  · exact good_num (by decide) (by decide) (by decide) (by decide)
  · exact good_num (by decide) (by decide) (by decide) (by decide)
  · exact ⟨.inr (.inr ⟨rfl, by decide, by decide, by decide⟩)⟩
  · exact ⟨.inr (.inr ⟨rfl, by decide, by decide, by decide⟩)⟩
set_option maxRecDepth 100000 in
set_option maxHeartbeats 400000 in
theorem wrong1_any (f : Fld) (hf : f ∈ someF) (w : World) :
    Calls Tryz.prog 155 #[.agg #[.int .i64 f.kind, .int .i64 f.size, .int .i64 f.lo, .int .i64 f.hi, .int .i64 f.most]] w fun e w' => e = .returned (.bool false) ∧ Below w.heap.size w w' := by
  have hR := fRight_any f hf
  have hb0 := below_new w (.cells #[.int .i64 f.kind, .int .i64 f.size, .int .i64 f.lo, .int .i64 f.hi, .int .i64 f.most] 193)
  have hbk := Bk.made w 193 f.cells.toArray
  have hld := ldF_at (w := w.alloc (.cells #[.int .i64 f.kind, .int .i64 f.size, .int .i64 f.lo, .int .i64 f.hi, .int .i64 f.most] 193)) (g := w.heap.size) (o := 0) (f := f) (fun j u hu => by rw [Nat.zero_add]; exact (hbk.cell j).trans (by simpa using hu))
  clear hbk
  go_enter Tryz.func155, Tryz.ntmps155
  go_wp2_with (first | (go_at_call 156; refine (hR _).mono ?_; rintro e w1 ⟨rfl, hb1⟩) | fail)
  go_ret
  exact ⟨rfl, hb0.trans (below_le hb0.size hb1)⟩
set_option maxRecDepth 100000 in
set_option maxHeartbeats 400000 in
theorem wrongI_any (A : Option Addr) (n c : Nat) (fs : List Fld) (hf : ∀ f ∈ fs, f ∈ someF) (w : World) (h : RdF w A n c fs) :
    Calls Tryz.prog 154 #[.slice A n c, .func (.func 155) #[] #[]] w fun e w' => e = .returned (.int .i64 (-1)) ∧ Below w.heap.size w w' := by
  have hcap := h.cap
  have hbig := h.big
  have hlen := h.len
  rw [List.length_map] at hlen
  have HL := Lib.hid hlen
  have H := Lib.hid h
  have hb0 := Lib.hid (Below.refl w.heap.size w)
  have HF := Lib.hid hf
  clear h hf hlen
  go_enter Tryz.func154, Tryz.ntmps154
  go_wp2
  go_loopw [8] (fun i wr => ∃ k : Nat, k ≤ n ∧ i = .int .i64 k ∧ Below w.heap.size w wr) (fun i _ => n - (intOf i).toNat)
  case atStart => exact ⟨0, Nat.zero_le _, rfl, hb0.out⟩
  case round =>
    obtain ⟨k, hk, rfl, hbw⟩ := hrel
    have HBw := Lib.hid hbw
    clear hbw
    by_cases hlt : k < n
    · have hi : (k : Int) < n := by omega
      have hkl : k < fs.length := by have := HL.out; omega
      obtain ⟨f, hfk⟩ : ∃ f, fs[k]? = some f := ⟨fs[k], List.getElem?_eq_getElem hkl⟩
      obtain ⟨g, rfl, hgl, hce⟩ := (H.out.ext HBw.out).cell k f.cells (by rw [List.getElem?_map, hfk]; rfl)
      have hld := ldF_at hce
      have hW := Lib.hid (wrong1_any f (HF.out f (List.mem_of_getElem? hfk)))
      clear hce hfk hkl
      go_wp2_with (first | (go_at_call 155; refine (hW.out _).mono ?_; rintro e w1 ⟨rfl, hb1⟩) | fail)
      go_roundw
      case rel => exact ⟨k + 1, by omega, by go_num, HBw.out.trans (below_le HBw.out.size hb1)⟩
      case measure => simp [intOf]; omega
    · have hkn : k = n := by omega
      subst hkn
      go_wp2
      go_ret
      exact ⟨rfl, HBw.out⟩
set_option maxRecDepth 100000 in
theorem wrong_any (A : Option Addr) (n c : Nat) (fs : List Fld) (hf : ∀ f ∈ fs, f ∈ someF) (w : World) (h : RdF w A n c fs) :
    Calls Tryz.prog 103 #[.slice A n c] w fun e w' => e = .returned (.int .i64 (-1)) ∧ Below w.heap.size w w' := by
  have hI := wrongI_any A n c fs hf w h
  go_enter Tryz.func103, Tryz.ntmps103
  go_wp2_with (first | (go_at_call 154; refine hI.mono ?_; rintro e w1 ⟨rfl, hb1⟩) | fail)
  go_ret
  exact ⟨rfl, hb1⟩
set_option maxRecDepth 100000 in
theorem in_any (f : Fld) (z : Int) (w : World) :
    Calls Tryz.prog 157 #[.agg #[.int .i64 f.kind, .int .i64 f.size, .int .i64 f.lo, .int .i64 f.hi, .int .i64 f.most], .int .i64 z] w fun e w' => e = .returned (.bool (inF f z)) ∧ Below w.heap.size w w' := by
  have hb0 := below_new w (.cells #[.int .i64 f.kind, .int .i64 f.size, .int .i64 f.lo, .int .i64 f.hi, .int .i64 f.most] 193)
  unfold inF
  by_cases h1 : f.lo ≤ z
  · by_cases h2 : z ≤ f.hi
    · rw [decide_eq_true h1, decide_eq_true h2]
      go_enter Tryz.func157, Tryz.ntmps157
      go_wp2
      go_ret
      exact ⟨rfl, hb0⟩
    · rw [decide_eq_true h1, decide_eq_false h2]
      go_enter Tryz.func157, Tryz.ntmps157
      go_wp2
      go_ret
      exact ⟨rfl, hb0⟩
  · rw [decide_eq_false h1]
    go_enter Tryz.func157, Tryz.ntmps157
    go_wp2
    go_ret
    exact ⟨rfl, hb0⟩
end Go.Proofs.YtkdlofgfkfhofaaGreatDoor

/-
  gram: fits.
-/
namespace Go.Proofs.YtkdlofgfkfhofaaGreatDoor
open Go.RowKit
attribute [local go_sem ↓] ldF_eq ldV_eq

set_option maxRecDepth 100000 in
theorem fits1_any (s : ByteArray) (g : Nat) (m : Int) (w : World) (hc : w.cell? ⟨g, 4, none⟩ = some (.int .i64 m)) :
    Calls Tryz.prog 159 #[.string s, .pointer (some ⟨g, 0, none⟩)] w fun e w' => e = .returned (.bool (decide (m < (s.size : Int)))) ∧ w = w' := by
  go_enter Tryz.func159, Tryz.ntmps159
  go_wp2
  go_ret
  exact ⟨rfl, rfl⟩
def longS (m : Int) (l : List ByteArray) : Bool := l.any fun s => decide (m < (s.size : Int))
set_option maxRecDepth 100000 in
set_option maxHeartbeats 400000 in
theorem longI_any (A : Option Addr) (n c : Nat) (l : List ByteArray) (g : Nat) (m : Int) (w : World) (h : RdT w A n c l) (hc : w.cell? ⟨g, 4, none⟩ = some (.int .i64 m)) :
    Calls Tryz.prog 197 #[.slice A n c, .func (.func 159) #[] #[.pointer (some ⟨g, 0, none⟩)]] w fun e w' => ∃ i : Int, e = .returned (.int .i64 i) ∧ decide (0 ≤ i) = longS m l ∧ w = w' := by
  have hcap := Rd.cap h
  have hbig := Rd.big h
  have HL := Lib.hid h.len
  have H := Lib.hid h
  have hF := Lib.hid (fun s => fits1_any s g m w hc)
  clear h hc
  go_enter Tryz.func197, Tryz.ntmps197
  go_wp2
  go_loop [8] (fun i => ∃ k : Nat, k ≤ n ∧ i = .int .i64 k ∧ longS m (l.take k) = false) (fun i => n - (intOf i).toNat)
  case atStart => exact ⟨0, Nat.zero_le _, rfl, rfl⟩
  case round =>
    obtain ⟨k, hk, rfl, hno⟩ := hrel
    have HN := Lib.hid hno
    clear hno
    by_cases hlt : k < n
    · have hi : (k : Int) < n := by omega
      have hkl : k < l.length := by have := HL.out; omega
      obtain ⟨s, hs⟩ : ∃ s, l[k]? = some s := ⟨l[k], List.getElem?_eq_getElem hkl⟩
      obtain ⟨ad, rfl, _, hce⟩ := Rd.cell H.out k (.string s) (by rw [List.getElem?_map, hs]; rfl)
      have HS := Lib.hid hs
      clear hs
      have hst : Hid (longS m (l.take (k + 1)) = decide (m < (s.size : Int))) := by
        show longS m (l.take (k + 1)) = _
        have h2 := HN.out
        unfold longS at h2 ⊢
        rw [List.take_add_one, HS.out, List.any_append, h2]
        simp
      by_cases hm : m < (s.size : Int)
      · have hF1 : Calls Tryz.prog 159 #[.string s, .pointer (some ⟨g, 0, none⟩)] w fun e w' => e = .returned (.bool true) ∧ w = w' := by have := hF.out s; rw [decide_eq_true hm] at this; exact this
        have HF1 := Lib.hid hF1
        clear hF1
        go_wp2_with (first | (go_at_call 159; refine HF1.out.mono ?_; rintro e w1 ⟨rfl, rfl⟩) | fail)
        go_ret
        refine ⟨_, rfl, ?_, rfl⟩
        have h3 : longS m (l.take (k + 1)) = true := by rw [hst.out, decide_eq_true hm]
        rw [decide_eq_true (by omega)]
        unfold longS at h3 ⊢
        rw [List.any_eq_true] at h3
        obtain ⟨x, hx, hy⟩ := h3
        exact (List.any_eq_true.2 ⟨x, List.mem_of_mem_take hx, hy⟩).symm
      · have hF1 : Calls Tryz.prog 159 #[.string s, .pointer (some ⟨g, 0, none⟩)] w fun e w' => e = .returned (.bool false) ∧ w = w' := by have := hF.out s; rw [decide_eq_false hm] at this; exact this
        have HF1 := Lib.hid hF1
        clear hF1
        go_wp2_with (first | (go_at_call 159; refine HF1.out.mono ?_; rintro e w1 ⟨rfl, rfl⟩) | fail)
        go_round
        case rel => exact ⟨k + 1, by omega, by go_num, by rw [hst.out, decide_eq_false (by omega)]⟩
        case measure => simp [intOf]; omega
    · have hkn : k = n := by omega
      subst hkn
      go_wp2
      go_ret
      refine ⟨-1, rfl, ?_, rfl⟩
      have h2 := HN.out
      rw [List.take_of_length_le (by have := HL.out; omega)] at h2
      rw [h2]
      rfl
set_option maxRecDepth 100000 in
theorem longC_any (A : Option Addr) (n c : Nat) (l : List ByteArray) (g : Nat) (m : Int) (b : Bool) (w : World) (h : RdT w A n c l) (hc : w.cell? ⟨g, 4, none⟩ = some (.int .i64 m)) (hb : longS m l = b) :
    Calls Tryz.prog 158 #[.slice A n c, .func (.func 159) #[] #[.pointer (some ⟨g, 0, none⟩)]] w fun e w' => e = .returned (.bool b) ∧ w = w' := by
  have hI := longI_any A n c l g m w h hc
  rw [hb] at hI
  have HI := Lib.hid hI
  clear hI hc hb h
  go_enter Tryz.func158, Tryz.ntmps158
  go_wp2_with (first | (go_at_call 197; refine HI.out.mono ?_; rintro e w1 ⟨i, rfl, hi, rfl⟩) | fail)
  go_ret
  exact ⟨rfl, rfl⟩
theorem empty_str (s : ByteArray) : s.toList.isEmpty = decide (s.size = 0) := by
  rw [Lib.toList_data, Lib.size_eq]
  cases h : s.data.toList with
  | nil => rfl
  | cons x l => rfl
theorem empty_len {l : List ByteArray} {N : Nat} (h : l.length = N) : l.isEmpty = decide (N = 0) := by
  subst h
  cases l <;> simp
def fcs (k size lo hi most : Int) : Array Value := #[.int .i64 k, .int .i64 size, .int .i64 lo, .int .i64 hi, .int .i64 most]
theorem ld_fits (w : World) (k size lo hi most : Int) (o : Obj) (q : Nat) :
    (ldF (.pointer (some ⟨w.heap.size, 0, none⟩))).run Tryz.prog (((w.alloc (.cells #[.int .i64 k, .int .i64 size, .int .i64 lo, .int .i64 hi, .int .i64 most] 193)).alloc o).drewN q) =
      .ok (.agg #[.int .i64 k, .int .i64 size, .int .i64 lo, .int .i64 hi, .int .i64 most]) (((w.alloc (.cells #[.int .i64 k, .int .i64 size, .int .i64 lo, .int .i64 hi, .int .i64 most] 193)).alloc o).drewN q) :=
  ldF_at (f := ⟨k, size, lo, hi, most⟩) (fun j u hu => by rw [Nat.zero_add]; exact ((((Bk.made w 193 (Fld.cells ⟨k, size, lo, hi, most⟩).toArray).alloc o).drawn q).cell j).trans (by simpa using hu))
set_option maxRecDepth 100000 in
set_option maxHeartbeats 4000000 in
theorem fits_num_any (size lo hi most n : Int) (s : ByteArray) (l : List ByteArray) (A : Option Addr) (N c : Nat) (w : World) (hl : l.length = N) :
    Calls Tryz.prog 104 #[.agg #[.int .i64 1, .int .i64 size, .int .i64 lo, .int .i64 hi, .int .i64 most], .agg #[.int .i64 n, .string s, .slice A N c]] w fun e w' => e = .returned (.bool (fitsV ⟨1, size, lo, hi, most⟩ ⟨n, s, l⟩)) ∧ Below w.heap.size w w' := by
  have e0 : fitsV ⟨1, size, lo, hi, most⟩ ⟨n, s, l⟩ = (inF ⟨1, size, lo, hi, most⟩ n && decide (s.size = 0) && l.isEmpty) := rfl
  rw [e0, empty_len hl, ← empty_str]
  clear e0 hl l
  have hI := in_any ⟨1, size, lo, hi, most⟩ n
  have hld := ld_fits w 1 size lo hi most (.cells #[.int .i64 n, .string s, .slice A N c] 198)
  have hb0 := below_new w (.cells #[.int .i64 1, .int .i64 size, .int .i64 lo, .int .i64 hi, .int .i64 most] 193)
  have hb1 := hb0.trans (below_le hb0.size (below_new _ (.cells #[.int .i64 n, .string s, .slice A N c] 198)))
  have hB := Lib.hid (fun q => below_drawn hb1 q)
  clear hb0 hb1
  cases h1 : inF ⟨1, size, lo, hi, most⟩ n
  case' true =>
    cases h2 : s.toList.isEmpty
    case' true =>
      rcases Nat.eq_zero_or_pos N with rfl | hN
  all_goals
    rw [h1] at hI
    have HI := Lib.hid hI
    clear hI h1
    go_enter Tryz.func104, Tryz.ntmps104
    go_wp2
    go_quiet (fail)
    go_wp2_with (first | (go_at_call 157; (with_reducible refine (HI.out _).mono ?_); rintro e w1 ⟨rfl, hb1⟩) | fail)
    go_ret
    exact ⟨by first | rfl | (congr 2; simp; try omega), (hB.out _).trans (below_le (hB.out _).size hb1)⟩
theorem ne_zero {n : Int} (h : n ≠ 0) : (n != 0) = true := by rw [bne_iff_ne]; exact h
set_option maxRecDepth 100000 in
set_option maxHeartbeats 4000000 in
theorem fits_text_any (size lo hi most n : Int) (s : ByteArray) (l : List ByteArray) (A : Option Addr) (N c : Nat) (w : World) (hl : l.length = N) :
    Calls Tryz.prog 104 #[.agg #[.int .i64 2, .int .i64 size, .int .i64 lo, .int .i64 hi, .int .i64 most], .agg #[.int .i64 n, .string s, .slice A N c]] w fun e w' => e = .returned (.bool (fitsV ⟨2, size, lo, hi, most⟩ ⟨n, s, l⟩)) ∧ Below w.heap.size w w' := by
  have e0 : fitsV ⟨2, size, lo, hi, most⟩ ⟨n, s, l⟩ = (inF ⟨2, size, lo, hi, most⟩ s.size && decide (n = 0) && l.isEmpty) := rfl
  rw [e0, empty_len hl]
  clear e0 hl l
  have hI := in_any ⟨2, size, lo, hi, most⟩ s.size
  have hld := ld_fits w 2 size lo hi most (.cells #[.int .i64 n, .string s, .slice A N c] 198)
  have hb0 := below_new w (.cells #[.int .i64 2, .int .i64 size, .int .i64 lo, .int .i64 hi, .int .i64 most] 193)
  have hb1 := hb0.trans (below_le hb0.size (below_new _ (.cells #[.int .i64 n, .string s, .slice A N c] 198)))
  have hB := Lib.hid (fun q => below_drawn hb1 q)
  clear hb0 hb1
  cases h1 : inF ⟨2, size, lo, hi, most⟩ s.size
  case' true =>
    by_cases hn : n = 0
    case' pos =>
      subst hn
      rcases Nat.eq_zero_or_pos N with rfl | hN
    case' neg =>
      have hn' := ne_zero hn
  all_goals
    rw [h1] at hI
    have HI := Lib.hid hI
    clear hI h1
    go_enter Tryz.func104, Tryz.ntmps104
    go_wp2
    go_quiet (fail)
    go_wp2_with (first | (go_at_call 157; (with_reducible refine (HI.out _).mono ?_); rintro e w1 ⟨rfl, hb1⟩) | fail)
    go_ret
    exact ⟨by first | rfl | (congr 2; simp; try omega), (hB.out _).trans (below_le (hB.out _).size hb1)⟩
theorem longS_all (m : Int) (l : List ByteArray) : l.all (fun s => decide ((s.size : Int) ≤ m)) = !longS m l := by
  unfold longS
  induction l with
  | nil => rfl
  | cons x l ih =>
    rw [List.all_cons, List.any_cons, ih, Bool.not_or]
    congr 1
    by_cases h : m < (x.size : Int)
    · simp [h]
    · simp [h]; omega
set_option maxRecDepth 100000 in
set_option maxHeartbeats 4000000 in
theorem fits_texts_any (size lo hi most n : Int) (s : ByteArray) (l : List ByteArray) (A : Option Addr) (N c : Nat) (w : World) (hr : RdT w A N c l) :
    Calls Tryz.prog 104 #[.agg #[.int .i64 3, .int .i64 size, .int .i64 lo, .int .i64 hi, .int .i64 most], .agg #[.int .i64 n, .string s, .slice A N c]] w fun e w' => e = .returned (.bool (fitsV ⟨3, size, lo, hi, most⟩ ⟨n, s, l⟩)) ∧ Below w.heap.size w w' := by
  have hl := hr.len
  have e0 : fitsV ⟨3, size, lo, hi, most⟩ ⟨n, s, l⟩ = (inF ⟨3, size, lo, hi, most⟩ l.length && l.all (fun s => decide ((s.size : Int) ≤ most)) && decide (n = 0) && decide (s.size = 0)) := rfl
  rw [e0, longS_all, ← empty_str, hl]
  clear e0
  have hI := in_any ⟨3, size, lo, hi, most⟩ N
  have hld := ld_fits w 3 size lo hi most (.cells #[.int .i64 n, .string s, .slice A N c] 198)
  have hb0 := below_new w (.cells #[.int .i64 3, .int .i64 size, .int .i64 lo, .int .i64 hi, .int .i64 most] 193)
  have hb1 := hb0.trans (below_le hb0.size (below_new _ (.cells #[.int .i64 n, .string s, .slice A N c] 198)))
  have hB := Lib.hid (fun q => below_drawn hb1 q)
  have hc4 : Hid (∀ q, (((w.alloc (.cells #[.int .i64 3, .int .i64 size, .int .i64 lo, .int .i64 hi, .int .i64 most] 193)).alloc (.cells #[.int .i64 n, .string s, .slice A N c] 198)).drewN q).cell? ⟨w.heap.size, 4, none⟩ = some (.int .i64 most)) := fun q =>
    ((((Bk.made w 193 (Fld.cells ⟨3, size, lo, hi, most⟩).toArray).alloc _).drawn q).cell 4).trans rfl
  have hC := Lib.hid (fun b (hb : longS most l = b) q => longC_any A N c l w.heap.size most b _ (hr.ext (hB.out q)) (hc4.out q) hb)
  clear hb0 hb1 hc4 hr
  cases h1 : inF ⟨3, size, lo, hi, most⟩ N
  case' true =>
    cases h3 : longS most l
    case' false =>
      by_cases hn : n = 0
      case' pos =>
        subst hn
        cases h2 : s.toList.isEmpty
      case' neg =>
        have hn' := ne_zero hn
  case' false =>
    have h3 : longS most l = longS most l := rfl
  all_goals
    rw [h1] at hI
    have HI := Lib.hid hI
    have HC := Lib.hid (hC.out _ h3)
    clear hI h1 hC h3
    go_enter Tryz.func104, Tryz.ntmps104
    go_wp2
    go_quiet (fail)
    go_wp2_with (first | (go_at_call 158; (with_reducible refine (HC.out _).mono ?_); rintro e w2 ⟨rfl, rfl⟩) | (go_at_call 157; (with_reducible refine (HI.out _).mono ?_); rintro e w1 ⟨rfl, hb1⟩) | fail)
    go_ret
    exact ⟨by first | rfl | (congr 2; simp; try omega), (hB.out _).trans (below_le (hB.out _).size hb1)⟩
theorem fits_any (f : Fld) (hf : GoodF f) (m : MVal) (w : World) (hm : m.ok w) :
    Calls Tryz.prog 104 #[.agg #[.int .i64 f.kind, .int .i64 f.size, .int .i64 f.lo, .int .i64 f.hi, .int .i64 f.most], .agg #[.int .i64 m.v.n, .string m.v.s, .slice m.A m.n m.c]] w fun e w' => e = .returned (.bool (fitsV f m.v)) ∧ Below w.heap.size w w' := by
  obtain ⟨k, size, lo, hi, most⟩ := f
  obtain ⟨⟨n, s, l⟩, A, N, c⟩ := m
  rcases hf.kind with ⟨k1, _⟩ | ⟨k1, _⟩ | ⟨k1, _⟩
  · obtain rfl : k = 1 := k1
    exact fits_num_any size lo hi most n s l A N c w (RdT.len hm)
  · obtain rfl : k = 2 := k1
    exact fits_text_any size lo hi most n s l A N c w (RdT.len hm)
  · obtain rfl : k = 3 := k1
    exact fits_texts_any size lo hi most n s l A N c w hm
end Go.Proofs.YtkdlofgfkfhofaaGreatDoor
