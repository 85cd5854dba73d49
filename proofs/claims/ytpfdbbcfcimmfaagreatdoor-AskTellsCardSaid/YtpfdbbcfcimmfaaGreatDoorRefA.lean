import Derived.Test.YtpfdbbcfcimmfaaGreatDoorEGetW
import Derived.Deep.QuietTactic
import Derived.BigQuiet
import Derived.Deep.CutRange
import Derived.Deep.RegionHeld3
import Derived.Test.YtpfdbbcfcimmfaaGreatDoorEBat3
/-
  staveref1: Big, Num.
-/
namespace Go.Proofs.YtpfdbbcfcimmfaaGreatDoor
open Go.RowKit
attribute [local go_sem] w8_nn w8_256 wrap_i64_w8 wrap64_w8 pastA_zero pastA_some
attribute [local go_sem ↓] sliced_past

set_option maxRecDepth 100000 in
set_option maxHeartbeats 400000 in
theorem refBig_any (A : Option Addr) (n c : Nat) (l : List UInt8) (w : World) (hr : RdB w A n c l) (hs : n ≤ 8) :
    Calls Tryz.prog 62 #[.slice A n c] w fun e w' => e = .returned (.int .u64 (leN l)) ∧ w = w' := by
  have hl := Lib.hid hr.len
  go_enter Tryz.func62, Tryz.ntmps62
  go_wp2
  go_loop [3, 4] (fun s i => ∃ k : Nat, k ≤ n ∧ i = .int .i64 ((k : Int) - 1) ∧ s = .int .u64 (leN (l.drop k))) (fun _ i => (intOf i + 1).toNat)
  case atStart => exact ⟨n, Nat.le_refl _, rfl, by rw [List.drop_of_length_le (by have := hl.out; omega)]; rfl⟩
  case round =>
    obtain ⟨k, hk, rfl, rfl⟩ := hrel
    by_cases hlt : 0 < k
    · obtain ⟨j, rfl⟩ : ∃ j, k = j + 1 := ⟨k - 1, by omega⟩
      have hi : (j : Int) < n := by omega
      obtain ⟨ad, x, rfl, hx, hxk, hc⟩ := hr.get (show j < n by omega)
      have hlt8 := leN_lt (l.drop (j + 1))
      rw [List.length_drop, pow256] at hlt8
      have hp := pow8_le (l.length - (j + 1)) (by have := hl.out; omega)
      have hst := shl_step' (leN (l.drop (j + 1))) x (by omega)
      have Hl8 := Lib.hid (leN_drop l j x hxk.out)
      clear hr hx hxk hlt8 hp
      go_wp2
      go_round
      case rel => exact ⟨j, by omega, rfl, by rw [Hl8.out]; simp⟩
      case measure => simp [intOf]
    · have hkn : k = 0 := by omega
      subst hkn
      go_wp2
      go_ret
      exact ⟨rfl, rfl⟩
set_option maxRecDepth 100000 in
set_option maxHeartbeats 400000 in
theorem refNum_any (A : Option Addr) (n c : Nat) (l : List UInt8) (x m : Nat) (w : World) (hr : RdB w A n c l) (hn : n ≤ 1000000) (hs : m ≤ 8) :
    Calls Tryz.prog 61 #[.slice A n c, .int .u64 x, .int .i64 m] w fun e w' => ∃ A' c', e = .returned (.slice A' (n + m) c') ∧ OwnB w' w.heap.size (.slice A' (n + m) c') (l ++ leB m x) ∧ Below w.heap.size w w' := by
  have hl := Lib.hid hr.len
  go_enter Tryz.func61, Tryz.ntmps61
  go_wp2_with (at_builtin; refine wpList_append_bytes rfl (.tmp 9) (.tmp 10) rfl w.heap.size w _ [] rfl (OwnB.empty w w.heap.size (Nat.le_refl _)) A n c l rfl (hr.ext ((Below.refl _ _).alloc (Nat.le_refl _) _)) (by simp; omega) ((Below.refl _ _).alloc (Nat.le_refl _) _) (by simp) n (by simp) ?_; intro A2 c2 w2 hown2 hb2 hB2)
  rw [List.nil_append] at hown2
  clear hr
  go_loopw [7, 8] (fun o i wr => ∃ (k : Nat) (A3 : Option Addr) (c3 : Nat), k ≤ m ∧ i = .int .i64 k ∧ o = .slice A3 (n + k) c3 ∧ Hid (OwnB wr w.heap.size (.slice A3 (n + k) c3) (l ++ leB k x)) ∧ Below w.heap.size w wr ∧ w.heap.size ≤ wr.heap.size) (fun _ i _ => m - (intOf i).toNat)
  case atStart => exact ⟨0, A2, c2, Nat.zero_le _, rfl, rfl, by rw [show leB 0 x = [] from rfl, List.append_nil]; exact hown2, hb2, hB2⟩
  case round =>
    obtain ⟨k, A3, c3, hk, rfl, rfl, hown, hb, hB⟩ := hrel
    by_cases hlt : k < m
    · have hi : (k : Int) < m := by omega
      have hby := byteAt_w8 x k
      go_wp2_with (at_builtin; refine wpList_append_bytes rfl (.tmp 17) (.tmp 23) rfl w.heap.size w (.slice A3 (n + k) c3) (l ++ leB k x) rfl (World.ownsRow.alloc hown.out _) (some ⟨wr.heap.size, 0, none⟩) 1 1 [byteAt x k] rfl (RdB.const wr [byteAt x k] _ rfl 5 (0, 0) 1 rfl (by omega)) (by rw [List.length_append, leB_len, hl.out]; omega) (hb.alloc hB _) (by simp; omega) (n + k + 1) (by rw [List.length_append, leB_len, hl.out]) ?_; intro A4 c4 w4 hown4 hb4 hB4)
      rw [List.append_assoc, ← leB_snoc] at hown4
      go_roundw
      case rel => exact ⟨k + 1, A4, c4, by omega, by go_num, rfl, hown4, hb4, hB4⟩
      case measure => simp [intOf]; omega
    · have hkn : k = m := by omega
      subst hkn
      go_wp2
      go_ret
      exact ⟨_, _, rfl, hown.out, hb⟩
/-- the same, of an Int -/
theorem refNum_int (A : Option Addr) (n c : Nat) (l : List UInt8) (x mz : Int) (m : Nat) (hm : mz = m) (w : World) (h0 : 0 ≤ x) (hr : RdB w A n c l) (hn : n ≤ 1000000) (hs : m ≤ 8) :
    Calls Tryz.prog 61 #[.slice A n c, .int .u64 x, .int .i64 mz] w fun e w' => ∃ A' c', e = .returned (.slice A' (n + m) c') ∧ OwnB w' w.heap.size (.slice A' (n + m) c') (l ++ leB m x.toNat) ∧ Below w.heap.size w w' := by
  obtain ⟨k, rfl⟩ := Int.eq_ofNat_of_zero_le h0
  subst hm
  exact refNum_any A n c l k m w hr hn hs
end Go.Proofs.YtpfdbbcfcimmfaaGreatDoor

/-
  staveref1: RightField, RightFields.
-/
namespace Go.Proofs.YtpfdbbcfcimmfaaGreatDoor
open Go.RowKit
attribute [local go_sem ↓] ldF_eq stF_eq

set_option maxRecDepth 100000 in
set_option maxHeartbeats 4000000 in
theorem refRF0 (w : World) : Calls Tryz.prog 113 #[.agg #[.int .i64 2, .int .i64 0, .int .i64 1, .int .i64 24, .int .i64 0]] w fun e w' => e = .returned (.bool true) ∧ Below w.heap.size w w' := by
  have hb := below_new w (.cells #[.int .i64 2, .int .i64 0, .int .i64 1, .int .i64 24, .int .i64 0] 98)
  have HB := Lib.hid (fun q => below_drawn hb q)
  have HB0 := Lib.hid hb
  clear hb
  go_enter Tryz.func113, Tryz.ntmps113
  go_wp2_with fail
  go_ret
  exact ⟨rfl, HB0.out⟩
set_option maxRecDepth 100000 in
set_option maxHeartbeats 4000000 in
theorem refRF1 (w : World) : Calls Tryz.prog 113 #[.agg #[.int .i64 2, .int .i64 0, .int .i64 1, .int .i64 600, .int .i64 0]] w fun e w' => e = .returned (.bool true) ∧ Below w.heap.size w w' := by
  have hb := below_new w (.cells #[.int .i64 2, .int .i64 0, .int .i64 1, .int .i64 600, .int .i64 0] 98)
  have HB := Lib.hid (fun q => below_drawn hb q)
  have HB0 := Lib.hid hb
  clear hb
  go_enter Tryz.func113, Tryz.ntmps113
  go_wp2_with fail
  go_ret
  exact ⟨rfl, HB0.out⟩
set_option maxRecDepth 100000 in
set_option maxHeartbeats 4000000 in
theorem refRF2 (w : World) : Calls Tryz.prog 113 #[.agg #[.int .i64 1, .int .i64 1, .int .i64 1, .int .i64 4, .int .i64 0]] w fun e w' => e = .returned (.bool true) ∧ Below w.heap.size w w' := by
  have hb := below_new w (.cells #[.int .i64 1, .int .i64 1, .int .i64 1, .int .i64 4, .int .i64 0] 98)
  have HB := Lib.hid (fun q => below_drawn hb q)
  have HB0 := Lib.hid hb
  clear hb
  go_enter Tryz.func113, Tryz.ntmps113
  go_wp2_with fail
  go_quiet (fail)
  go_wp2_with fail
  go_ret
  exact ⟨rfl, HB.out _⟩
set_option maxRecDepth 100000 in
set_option maxHeartbeats 4000000 in
theorem refRF3 (w : World) : Calls Tryz.prog 113 #[.agg #[.int .i64 1, .int .i64 1, .int .i64 0, .int .i64 3, .int .i64 0]] w fun e w' => e = .returned (.bool true) ∧ Below w.heap.size w w' := by
  have hb := below_new w (.cells #[.int .i64 1, .int .i64 1, .int .i64 0, .int .i64 3, .int .i64 0] 98)
  have HB := Lib.hid (fun q => below_drawn hb q)
  have HB0 := Lib.hid hb
  clear hb
  go_enter Tryz.func113, Tryz.ntmps113
  go_wp2_with fail
  go_quiet (fail)
  go_wp2_with fail
  go_ret
  exact ⟨rfl, HB.out _⟩
set_option maxRecDepth 100000 in
set_option maxHeartbeats 4000000 in
theorem refRF4 (w : World) : Calls Tryz.prog 113 #[.agg #[.int .i64 1, .int .i64 8, .int .i64 0, .int .i64 9223372036854775807, .int .i64 0]] w fun e w' => e = .returned (.bool true) ∧ Below w.heap.size w w' := by
  have hb := below_new w (.cells #[.int .i64 1, .int .i64 8, .int .i64 0, .int .i64 9223372036854775807, .int .i64 0] 98)
  have HB := Lib.hid (fun q => below_drawn hb q)
  have HB0 := Lib.hid hb
  clear hb
  go_enter Tryz.func113, Tryz.ntmps113
  go_wp2_with fail
  go_quiet (fail)
  go_wp2_with fail
  go_ret
  exact ⟨rfl, HB.out _⟩
set_option maxRecDepth 100000 in
set_option maxHeartbeats 4000000 in
theorem refRF5 (w : World) : Calls Tryz.prog 113 #[.agg #[.int .i64 1, .int .i64 8, .int .i64 0, .int .i64 1125899906842624, .int .i64 0]] w fun e w' => e = .returned (.bool true) ∧ Below w.heap.size w w' := by
  have hb := below_new w (.cells #[.int .i64 1, .int .i64 8, .int .i64 0, .int .i64 1125899906842624, .int .i64 0] 98)
  have HB := Lib.hid (fun q => below_drawn hb q)
  have HB0 := Lib.hid hb
  clear hb
  go_enter Tryz.func113, Tryz.ntmps113
  go_wp2_with fail
  go_quiet (fail)
  go_wp2_with fail
  go_ret
  exact ⟨rfl, HB.out _⟩
set_option maxRecDepth 100000 in
set_option maxHeartbeats 4000000 in
theorem refRF6 (w : World) : Calls Tryz.prog 113 #[.agg #[.int .i64 1, .int .i64 4, .int .i64 0, .int .i64 1048576, .int .i64 0]] w fun e w' => e = .returned (.bool true) ∧ Below w.heap.size w w' := by
  have hb := below_new w (.cells #[.int .i64 1, .int .i64 4, .int .i64 0, .int .i64 1048576, .int .i64 0] 98)
  have HB := Lib.hid (fun q => below_drawn hb q)
  have HB0 := Lib.hid hb
  clear hb
  go_enter Tryz.func113, Tryz.ntmps113
  go_wp2_with fail
  go_quiet (fail)
  go_wp2_with fail
  go_ret
  exact ⟨rfl, HB.out _⟩
set_option maxRecDepth 100000 in
set_option maxHeartbeats 4000000 in
theorem refRF7 (w : World) : Calls Tryz.prog 113 #[.agg #[.int .i64 1, .int .i64 8, .int .i64 0, .int .i64 1099511627776, .int .i64 0]] w fun e w' => e = .returned (.bool true) ∧ Below w.heap.size w w' := by
  have hb := below_new w (.cells #[.int .i64 1, .int .i64 8, .int .i64 0, .int .i64 1099511627776, .int .i64 0] 98)
  have HB := Lib.hid (fun q => below_drawn hb q)
  have HB0 := Lib.hid hb
  clear hb
  go_enter Tryz.func113, Tryz.ntmps113
  go_wp2_with fail
  go_quiet (fail)
  go_wp2_with fail
  go_ret
  exact ⟨rfl, HB.out _⟩
set_option maxRecDepth 100000 in
set_option maxHeartbeats 4000000 in
theorem refRF8 (w : World) : Calls Tryz.prog 113 #[.agg #[.int .i64 3, .int .i64 0, .int .i64 1, .int .i64 8, .int .i64 60]] w fun e w' => e = .returned (.bool true) ∧ Below w.heap.size w w' := by
  have hb := below_new w (.cells #[.int .i64 3, .int .i64 0, .int .i64 1, .int .i64 8, .int .i64 60] 98)
  have HB := Lib.hid (fun q => below_drawn hb q)
  have HB0 := Lib.hid hb
  clear hb
  go_enter Tryz.func113, Tryz.ntmps113
  go_wp2_with fail
  go_ret
  exact ⟨rfl, HB0.out⟩
theorem refRF_any (f : Fld) (hf : f ∈ someF) (w : World) : Calls Tryz.prog 113 #[.agg #[.int .i64 f.kind, .int .i64 f.size, .int .i64 f.lo, .int .i64 f.hi, .int .i64 f.most]] w fun e w' => e = .returned (.bool true) ∧ Below w.heap.size w w' := by
  unfold someF at hf
  simp only [List.mem_cons, List.not_mem_nil, or_false] at hf
  rcases hf with rfl | rfl | rfl | rfl | rfl | rfl | rfl | rfl | rfl
  · exact refRF0 w
  · exact refRF1 w
  · exact refRF2 w
  · exact refRF3 w
  · exact refRF4 w
  · exact refRF5 w
  · exact refRF6 w
  · exact refRF7 w
  · exact refRF8 w
set_option maxRecDepth 100000 in
set_option maxHeartbeats 4000000 in
theorem refRFs_any (A : Option Addr) (n c : Nat) (fs : List Fld) (hf : ∀ f ∈ fs, f ∈ someF) (w : World) (h : RdF w A n c fs) :
    Calls Tryz.prog 78 #[.slice A n c] w fun e w' => e = .returned (.int .i64 (-1)) ∧ Below w.heap.size w w' := by
  have hcap := h.cap
  have hbig := h.big
  have hlen := h.len
  rw [List.length_map] at hlen
  have HL := Lib.hid hlen
  have H := Lib.hid h
  have hb0 := Lib.hid (Below.refl w.heap.size w)
  have HF := Lib.hid hf
  clear h hf hlen
  go_enter Tryz.func78, Tryz.ntmps78
  go_wp2
  go_loopw [7] (fun i wr => ∃ k : Nat, k ≤ n ∧ i = .int .i64 k ∧ Below w.heap.size w wr) (fun i _ => n - (intOf i).toNat)
  case atStart => exact ⟨0, Nat.zero_le _, rfl, hb0.out⟩
  case round =>
    obtain ⟨k, hk, rfl, hbw⟩ := hrel
    have HBw := Lib.hid hbw
    clear hbw
    by_cases hlt : k < n
    · have hi : (k : Int) < n := by omega
      have hkl : k < fs.length := by have := HL.out; omega
      obtain ⟨f, hfk⟩ : ∃ f, fs[k]? = some f := ⟨fs[k], List.getElem?_eq_getElem hkl⟩
      obtain ⟨g, rfl, hgl, hce⟩ := (H.out.ext HBw.out).cell k f.cells (by rw [List.getElem?_map, hfk]; rfl)
      have hld := ldF_at hce
      have hst := stF_new wr f
      have hbn := below_new wr (.cells #[.int .i64 f.kind, .int .i64 f.size, .int .i64 f.lo, .int .i64 f.hi, .int .i64 f.most] 98)
      have hld2 := ldF_bk (Bk.made wr 98 #[.int .i64 f.kind, .int .i64 f.size, .int .i64 f.lo, .int .i64 f.hi, .int .i64 f.most])
      have HB1 := Lib.hid (HBw.out.trans (below_le HBw.out.size hbn))
      have hW := Lib.hid (refRF_any f (HF.out f (List.mem_of_getElem? hfk)))
      clear hce hfk hkl hbn
      go_wp2_with (first | (go_at_call 113; refine (hW.out _).mono ?_; rintro e w1 ⟨rfl, hb1⟩) | fail)
      go_roundw
      case rel => exact ⟨k + 1, by omega, by go_num, HB1.out.trans (below_le HB1.out.size hb1)⟩
      case measure => simp [intOf]; omega
    · have hkn : k = n := by omega
      subst hkn
      go_wp2
      go_ret
      exact ⟨rfl, HBw.out⟩
end Go.Proofs.YtpfdbbcfcimmfaaGreatDoor

/-
  staveref1: fits.
-/
namespace Go.Proofs.YtpfdbbcfcimmfaaGreatDoor
open Go.RowKit
attribute [local go_sem ↓] ldF_eq stF_eq

set_option maxRecDepth 100000 in
set_option maxHeartbeats 4000000 in
theorem refFits_1 (size lo hi most n : Int) (s : ByteArray) (l : List ByteArray) (A : Option Addr) (N c : Nat) (w : World) (hl : l.length = N) :
    Calls Tryz.prog 79 #[.agg #[.int .i64 1, .int .i64 size, .int .i64 lo, .int .i64 hi, .int .i64 most], .agg #[.int .i64 n, .string s, .slice A N c]] w fun e w' => e = .returned (.bool (fitsV ⟨1, size, lo, hi, most⟩ ⟨n, s, l⟩)) ∧ Below w.heap.size w w' := by
  have E0 : Hid (fitsV ⟨1, size, lo, hi, most⟩ ⟨n, s, l⟩ = (decide (lo ≤ n) && decide (n ≤ hi) && s.toList.isEmpty && decide (N = 0))) := by
    show (inF ⟨1, size, lo, hi, most⟩ n && decide (s.size = 0) && l.isEmpty) = _
    rw [empty_len hl, ← empty_str]; rfl
  have HB := Lib.hid (below_two w (.cells #[.int .i64 1, .int .i64 size, .int .i64 lo, .int .i64 hi, .int .i64 most] 98) (.cells #[.int .i64 n, .string s, .slice A N c] 101))
  clear hl
  by_cases h0 : lo ≤ n
  · have q0 : decide (lo ≤ n) = true := decide_eq_true h0
    have H0 : Hid (decide (lo ≤ n) = true) := decide_eq_true h0
    by_cases h1 : n ≤ hi
    · have q1 : decide (n ≤ hi) = true := decide_eq_true h1
      have H1 : Hid (decide (n ≤ hi) = true) := decide_eq_true h1
      cases h2 : s.toList.isEmpty
      · have H2 := Lib.hid h2
        go_enter Tryz.func79, Tryz.ntmps79
        go_wp2_with fail
        go_ret
        exact ⟨ret_bool (by rw [E0.out, H0.out, H1.out, H2.out]; simp), HB.out⟩
      · have H2 := Lib.hid h2
        by_cases h3 : N = 0
        · have q3 : ((N : Int) == 0) = true := by simp [h3]
          have H3 : Hid (decide (N = 0) = true) := decide_eq_true h3
          clear h3
          go_enter Tryz.func79, Tryz.ntmps79
          go_wp2_with fail
          go_ret
          exact ⟨ret_bool (by rw [E0.out, H0.out, H1.out, H2.out, H3.out]; simp), HB.out⟩
        · have q3 : ((N : Int) == 0) = false := by simp [h3]
          have H3 : Hid (decide (N = 0) = false) := decide_eq_false h3
          clear h3
          go_enter Tryz.func79, Tryz.ntmps79
          go_wp2_with fail
          go_ret
          exact ⟨ret_bool (by rw [E0.out, H0.out, H1.out, H2.out, H3.out]; simp), HB.out⟩
    · have q1 : decide (n ≤ hi) = false := decide_eq_false h1
      have H1 : Hid (decide (n ≤ hi) = false) := decide_eq_false h1
      go_enter Tryz.func79, Tryz.ntmps79
      go_wp2_with fail
      go_ret
      exact ⟨ret_bool (by rw [E0.out, H0.out, H1.out]; simp), HB.out⟩
  · have q0 : decide (lo ≤ n) = false := decide_eq_false h0
    have H0 : Hid (decide (lo ≤ n) = false) := decide_eq_false h0
    go_enter Tryz.func79, Tryz.ntmps79
    go_wp2_with fail
    go_ret
    exact ⟨ret_bool (by rw [E0.out, H0.out]; simp), HB.out⟩
set_option maxRecDepth 100000 in
set_option maxHeartbeats 4000000 in
theorem refFits_2 (size lo hi most n : Int) (s : ByteArray) (l : List ByteArray) (A : Option Addr) (N c : Nat) (w : World) (hl : l.length = N) :
    Calls Tryz.prog 79 #[.agg #[.int .i64 2, .int .i64 size, .int .i64 lo, .int .i64 hi, .int .i64 most], .agg #[.int .i64 n, .string s, .slice A N c]] w fun e w' => e = .returned (.bool (fitsV ⟨2, size, lo, hi, most⟩ ⟨n, s, l⟩)) ∧ Below w.heap.size w w' := by
  have E0 : Hid (fitsV ⟨2, size, lo, hi, most⟩ ⟨n, s, l⟩ = (decide (lo ≤ (s.size : Int)) && decide ((s.size : Int) ≤ hi) && decide (n = 0) && decide (N = 0))) := by
    show (inF ⟨2, size, lo, hi, most⟩ s.size && decide (n = 0) && l.isEmpty) = _
    rw [empty_len hl]; rfl
  have HB := Lib.hid (below_two w (.cells #[.int .i64 2, .int .i64 size, .int .i64 lo, .int .i64 hi, .int .i64 most] 98) (.cells #[.int .i64 n, .string s, .slice A N c] 101))
  clear hl
  by_cases h0 : lo ≤ (s.size : Int)
  · have q0 : decide (lo ≤ (s.size : Int)) = true := decide_eq_true h0
    have H0 : Hid (decide (lo ≤ (s.size : Int)) = true) := decide_eq_true h0
    by_cases h1 : (s.size : Int) ≤ hi
    · have q1 : decide ((s.size : Int) ≤ hi) = true := decide_eq_true h1
      have H1 : Hid (decide ((s.size : Int) ≤ hi) = true) := decide_eq_true h1
      by_cases h2 : n = 0
      · have q2 : (n == 0) = true := by simp [h2]
        have H2 : Hid (decide (n = 0) = true) := decide_eq_true h2
        clear h2
        by_cases h3 : N = 0
        · have q3 : ((N : Int) == 0) = true := by simp [h3]
          have H3 : Hid (decide (N = 0) = true) := decide_eq_true h3
          clear h3
          go_enter Tryz.func79, Tryz.ntmps79
          go_wp2_with fail
          go_ret
          exact ⟨ret_bool (by rw [E0.out, H0.out, H1.out, H2.out, H3.out]; simp), HB.out⟩
        · have q3 : ((N : Int) == 0) = false := by simp [h3]
          have H3 : Hid (decide (N = 0) = false) := decide_eq_false h3
          clear h3
          go_enter Tryz.func79, Tryz.ntmps79
          go_wp2_with fail
          go_ret
          exact ⟨ret_bool (by rw [E0.out, H0.out, H1.out, H2.out, H3.out]; simp), HB.out⟩
      · have q2 : (n == 0) = false := by simp [h2]
        have H2 : Hid (decide (n = 0) = false) := decide_eq_false h2
        clear h2
        go_enter Tryz.func79, Tryz.ntmps79
        go_wp2_with fail
        go_ret
        exact ⟨ret_bool (by rw [E0.out, H0.out, H1.out, H2.out]; simp), HB.out⟩
    · have q1 : decide ((s.size : Int) ≤ hi) = false := decide_eq_false h1
      have H1 : Hid (decide ((s.size : Int) ≤ hi) = false) := decide_eq_false h1
      go_enter Tryz.func79, Tryz.ntmps79
      go_wp2_with fail
      go_ret
      exact ⟨ret_bool (by rw [E0.out, H0.out, H1.out]; simp), HB.out⟩
  · have q0 : decide (lo ≤ (s.size : Int)) = false := decide_eq_false h0
    have H0 : Hid (decide (lo ≤ (s.size : Int)) = false) := decide_eq_false h0
    go_enter Tryz.func79, Tryz.ntmps79
    go_wp2_with fail
    go_ret
    exact ⟨ret_bool (by rw [E0.out, H0.out]; simp), HB.out⟩
set_option maxRecDepth 100000 in
set_option maxHeartbeats 4000000 in
theorem refFits_3 (size lo hi most n : Int) (s : ByteArray) (l : List ByteArray) (A : Option Addr) (N c : Nat) (w : World) (hr : RdT w A N c l) :
    Calls Tryz.prog 79 #[.agg #[.int .i64 3, .int .i64 size, .int .i64 lo, .int .i64 hi, .int .i64 most], .agg #[.int .i64 n, .string s, .slice A N c]] w fun e w' => e = .returned (.bool (fitsV ⟨3, size, lo, hi, most⟩ ⟨n, s, l⟩)) ∧ Below w.heap.size w w' := by
  have E0 : Hid (fitsV ⟨3, size, lo, hi, most⟩ ⟨n, s, l⟩ = (l.all (fun s => decide ((s.size : Int) ≤ most)) && (decide (lo ≤ (N : Int)) && decide ((N : Int) ≤ hi) && decide (n = 0) && s.toList.isEmpty))) := by
    show (inF ⟨3, size, lo, hi, most⟩ l.length && l.all (fun s => decide ((s.size : Int) ≤ most)) && decide (n = 0) && decide (s.size = 0)) = _
    rw [hr.len, ← empty_str]
    show (decide (lo ≤ (N : Int)) && decide ((N : Int) ≤ hi) && _ && _ && _) = _
    cases l.all (fun s => decide ((s.size : Int) ≤ most)) <;> simp
  have HB := Lib.hid (below_two w (.cells #[.int .i64 3, .int .i64 size, .int .i64 lo, .int .i64 hi, .int .i64 most] 98) (.cells #[.int .i64 n, .string s, .slice A N c] 101))
  have HL := Lib.hid hr.len
  have hcap := Rd.cap hr
  have hbig := Rd.big hr
  have HR := Lib.hid (RdT.ext hr (below_two w (.cells #[.int .i64 3, .int .i64 size, .int .i64 lo, .int .i64 hi, .int .i64 most] 98) (.cells #[.int .i64 n, .string s, .slice A N c] 101)))
  clear hr
  go_enter Tryz.func79, Tryz.ntmps79
  go_wp2_with fail
  go_loopw [64] (fun i wr => ∃ k : Nat, k ≤ N ∧ i = .int .i64 k ∧ Hid ((l.take k).all (fun s => decide ((s.size : Int) ≤ most)) = true) ∧ wr = (w.alloc (.cells #[.int .i64 3, .int .i64 size, .int .i64 lo, .int .i64 hi, .int .i64 most] 98)).alloc (.cells #[.int .i64 n, .string s, .slice A N c] 101)) (fun i _ => N - (intOf i).toNat)
  case atStart => exact ⟨0, Nat.zero_le _, rfl, rfl, rfl⟩
  case round =>
    obtain ⟨k, hk, rfl, hall, rfl⟩ := hrel
    by_cases hlt : k < N
    · have hi : (k : Int) < N := by omega
      obtain ⟨sk, hs⟩ : ∃ sk, l[k]? = some sk := ⟨l[k]'(by have := HL.out; omega), List.getElem?_eq_getElem _⟩
      obtain ⟨ad, rfl, _, hc⟩ := Rd.cell HR.out k (.string sk) (by rw [List.getElem?_map, hs]; rfl)
      have Hs := Lib.hid hs
      clear hs
      by_cases hm : most < (sk.size : Int)
      · have qm : decide (most < (sk.size : Int)) = true := decide_eq_true hm
        go_wp2_with fail
        go_ret
        refine ⟨ret_bool ?_, HB.out⟩
        rw [E0.out, List.all_eq_false.2 ⟨sk, List.mem_of_getElem? Hs.out, by simp; omega⟩, Bool.false_and]
      · have qm : decide (most < (sk.size : Int)) = false := decide_eq_false hm
        go_wp2_with fail
        go_roundw
        case rel => exact ⟨k + 1, by omega, by go_num, by show (l.take (k + 1)).all _ = true; rw [List.take_add_one, Hs.out, List.all_append, hall.out]; simp; omega, trivial⟩
        case measure => simp [intOf]; omega
    · obtain rfl : k = N := by omega
      have hal : Hid (l.all (fun s => decide ((s.size : Int) ≤ most)) = true) := by
        have h := hall.out
        rw [List.take_of_length_le (by have := HL.out; omega)] at h
        exact h
      clear hall
      by_cases h0 : lo ≤ (k : Int)
      · have q0 : decide (lo ≤ (k : Int)) = true := decide_eq_true h0
        have H0 : Hid (decide (lo ≤ (k : Int)) = true) := decide_eq_true h0
        by_cases h1 : (k : Int) ≤ hi
        · have q1 : decide ((k : Int) ≤ hi) = true := decide_eq_true h1
          have H1 : Hid (decide ((k : Int) ≤ hi) = true) := decide_eq_true h1
          by_cases h2 : n = 0
          · have q2 : (n == 0) = true := by simp [h2]
            have H2 : Hid (decide (n = 0) = true) := decide_eq_true h2
            clear h2
            cases h3 : s.toList.isEmpty
            · have H3 := Lib.hid h3
              go_wp2_with fail
              go_ret
              exact ⟨ret_bool (by rw [E0.out, hal.out, H0.out, H1.out, H2.out, H3.out]; simp), HB.out⟩
            · have H3 := Lib.hid h3
              go_wp2_with fail
              go_ret
              exact ⟨ret_bool (by rw [E0.out, hal.out, H0.out, H1.out, H2.out, H3.out]; simp), HB.out⟩
          · have q2 : (n == 0) = false := by simp [h2]
            have H2 : Hid (decide (n = 0) = false) := decide_eq_false h2
            clear h2
            go_wp2_with fail
            go_ret
            exact ⟨ret_bool (by rw [E0.out, hal.out, H0.out, H1.out, H2.out]; simp), HB.out⟩
        · have q1 : decide ((k : Int) ≤ hi) = false := decide_eq_false h1
          have H1 : Hid (decide ((k : Int) ≤ hi) = false) := decide_eq_false h1
          go_wp2_with fail
          go_ret
          exact ⟨ret_bool (by rw [E0.out, hal.out, H0.out, H1.out]; simp), HB.out⟩
      · have q0 : decide (lo ≤ (k : Int)) = false := decide_eq_false h0
        have H0 : Hid (decide (lo ≤ (k : Int)) = false) := decide_eq_false h0
        go_wp2_with fail
        go_ret
        exact ⟨ret_bool (by rw [E0.out, hal.out, H0.out]; simp), HB.out⟩
theorem refFits_any (f : Fld) (hf : GoodF f) (m : MVal) (w : World) (hm : m.ok w) :
    Calls Tryz.prog 79 #[.agg #[.int .i64 f.kind, .int .i64 f.size, .int .i64 f.lo, .int .i64 f.hi, .int .i64 f.most], .agg #[.int .i64 m.v.n, .string m.v.s, .slice m.A m.n m.c]] w fun e w' => e = .returned (.bool (fitsV f m.v)) ∧ Below w.heap.size w w' := by
  obtain ⟨k, size, lo, hi, most⟩ := f
  rcases hf.kind with ⟨hk, _⟩ | ⟨hk, _⟩ | ⟨hk, _⟩
  · dsimp only at hk
    subst hk
    exact refFits_1 size lo hi most m.v.n m.v.s m.v.l m.A m.n m.c w hm.len
  · dsimp only at hk
    subst hk
    exact refFits_2 size lo hi most m.v.n m.v.s m.v.l m.A m.n m.c w hm.len
  · dsimp only at hk
    subst hk
    exact refFits_3 size lo hi most m.v.n m.v.s m.v.l m.A m.n m.c w hm
end Go.Proofs.YtpfdbbcfcimmfaaGreatDoor

/-
  staveref1: text, PutFields.
-/
namespace Go.Proofs.YtpfdbbcfcimmfaaGreatDoor
open Go.RowKit
attribute [local go_sem ↓] ldF_eq stF_eq ldV_eq

theorem writV_small {f : Fld} (hf : f ∈ someF) {v : Val} (h : fitsV f v = true) : (writV f v).length ≤ 700 := by
  obtain ⟨n, s, l⟩ := v
  unfold someF at hf
  simp only [List.mem_cons, List.not_mem_nil, or_false] at hf
  rcases hf with rfl | rfl | rfl | rfl | rfl | rfl | rfl | rfl | rfl
  · obtain ⟨s', e, _, h2⟩ := fits_text (f := sF 1 24) rfl h
    obtain rfl : s = s' := congrArg Val.s e
    change (s.size : Int) ≤ 24 at h2
    show (txtB s).length ≤ _
    rw [txtB_len]; omega
  · obtain ⟨s', e, _, h2⟩ := fits_text (f := sF 1 600) rfl h
    obtain rfl : s = s' := congrArg Val.s e
    change (s.size : Int) ≤ 600 at h2
    show (txtB s).length ≤ _
    rw [txtB_len]; omega
  · show (leB 1 n.toNat).length ≤ _
    rw [leB_len]; omega
  · show (leB 1 n.toNat).length ≤ _
    rw [leB_len]; omega
  · show (leB 8 n.toNat).length ≤ _
    rw [leB_len]; omega
  · show (leB 8 n.toNat).length ≤ _
    rw [leB_len]; omega
  · show (leB 4 n.toNat).length ≤ _
    rw [leB_len]; omega
  · show (leB 8 n.toNat).length ≤ _
    rw [leB_len]; omega
  · obtain ⟨l', e, _, h2, h3⟩ := fits_texts (f := ⟨3, 0, 1, 8, 60⟩) rfl h
    obtain rfl : l = l' := congrArg Val.l e
    change (l.length : Int) ≤ 8 at h2
    have h4 := flat_len_le l h3
    show (leB 1 l.length ++ l.flatMap txtB).length ≤ _
    rw [List.length_append, leB_len]
    omega
theorem upB_small {fs : List Fld} {vs : List Val} (hg : ∀ f ∈ fs, f ∈ someF) : ∀ k, upOk fs vs k = true → (upB fs vs k).length ≤ 700 * k
  | 0, _ => by simp [upB]
  | k + 1, h => by
    by_cases hk : k < (List.zip fs vs).length
    · have hk1 : k < fs.length := by rw [List.length_zip] at hk; omega
      have hk2 : k < vs.length := by rw [List.length_zip] at hk; omega
      obtain ⟨e1, e2⟩ := up_next (List.getElem?_eq_getElem hk1) (List.getElem?_eq_getElem hk2)
      rw [e2, Bool.and_eq_true] at h
      have := upB_small hg k h.1
      have := writV_small (hg _ (List.getElem_mem hk1)) h.2
      rw [e1, List.length_append]
      omega
    · have e : upB fs vs (k + 1) = upB fs vs k := by unfold upB; rw [List.take_of_length_le (by omega), List.take_of_length_le (by omega)]
      have e2 : upOk fs vs (k + 1) = upOk fs vs k := by unfold upOk; rw [List.take_of_length_le (by omega), List.take_of_length_le (by omega)]
      rw [e2] at h
      have := upB_small hg k h
      rw [e]; omega
theorem refNum_nat (A : Option Addr) (n c : Nat) (l : List UInt8) (x : Nat) (mz : Int) (m : Nat) (hm : mz = m) (w : World) (hr : RdB w A n c l) (hn : n ≤ 1000000) (hs : m ≤ 8) :
    Calls Tryz.prog 61 #[.slice A n c, .int .u64 x, .int .i64 mz] w fun e w' => ∃ A' c', e = .returned (.slice A' (n + m) c') ∧ OwnB w' w.heap.size (.slice A' (n + m) c') (l ++ leB m x) ∧ Below w.heap.size w w' := by
  subst hm
  exact refNum_any A n c l x m w hr hn hs
theorem someF_hi {f : Fld} (hf : f ∈ someF) : f.hi ≤ 9223372036854775807 := by
  unfold someF at hf
  simp only [List.mem_cons, List.not_mem_nil, or_false] at hf
  rcases hf with rfl | rfl | rfl | rfl | rfl | rfl | rfl | rfl | rfl <;> decide
set_option maxRecDepth 100000 in
set_option maxHeartbeats 4000000 in
theorem refText_any (A : Option Addr) (n c : Nat) (l : List UInt8) (s : ByteArray) (w : World) (hr : RdB w A n c l) (hn : n ≤ 900000) (hs : s.size ≤ 65535) :
    Calls Tryz.prog 80 #[.slice A n c, .string s] w fun e w' => ∃ A' c', e = .returned (.slice A' (n + 2 + s.size) c') ∧ OwnB w' w.heap.size (.slice A' (n + 2 + s.size) c') (l ++ txtB s) ∧ Below w.heap.size w w' := by
  have HN := Lib.hid (refNum_nat A n c l s.size 2 2 rfl w hr (by omega) (by omega))
  have hsz : ((s.size : Nat) : Int) % 18446744073709551616 = s.size := by omega
  have HL := Lib.hid hr.len
  clear hr
  go_enter Tryz.func80, Tryz.ntmps80
  go_wp2_with fail
  with_reducible refine HN.out.mono ?_
  rintro e w1 ⟨A1, c1, rfl, ho1, hb1⟩
  have HO1 := Lib.hid ho1
  have HB1 := Lib.hid hb1
  clear ho1 hb1 HN
  go_wp2_with (first | (at_builtin; go_loud (refine wpList_append_text rfl (.tmp 9) (.tmp 10) rfl w.heap.size w _ (l ++ leB 2 s.size) rfl HO1.out s rfl (by rw [List.length_append, leB_len, HL.out]; omega) HB1.out HB1.out.size (n + 2 + s.size) (by rw [List.length_append, leB_len, HL.out]) ?_; intro A2 c2 w2 ho2 hb2 hs2)) | fail)
  go_ret
  refine ⟨_, _, rfl, ?_, hb2⟩
  have h := ho2.out
  rw [List.append_assoc] at h
  exact h
/-- what the document's PutFields hands back -/
def RPutR (fs : List Fld) (vs : List Val) (B : Nat) (w' : World) (A : Option Addr) (M c : Nat) (k : Int) : Prop :=
  (okAll fs vs = true ∧ k = 0 ∧ OwnB w' B (.slice A M c) (bytesAll fs vs)) ∨ (okAll fs vs = false ∧ Value.slice A M c = .slice none 0 0 ∧ (k = 1 ∨ k = 2))
set_option maxRecDepth 100000 in
set_option maxHeartbeats 8000000 in
theorem refPut_any (A : Option Addr) (n c : Nat) (fs : List Fld) (Av : Option Addr) (nv cv : Nat) (ms : List MVal) (w : World) (hf : ∀ f ∈ fs, f ∈ someF) (h : RdF w A n c fs) (hv : RdV w Av nv cv ms) (hn : n ≤ 100) :
    Calls Tryz.prog 45 #[.slice A n c, .slice Av nv cv] w fun e w' => ∃ A' M c' k i, e = .returned (.tuple #[.slice A' M c', .int .i64 k, .int .i64 i]) ∧ RPutR fs (vsOf ms) w.heap.size w' A' M c' k ∧ Below w.heap.size w w' := by
  have hW := Lib.hid (refRFs_any A n c fs hf w h)
  have hcap := h.cap
  have hbig := h.big
  have hlen := h.len
  rw [List.length_map] at hlen
  have HL := Lib.hid hlen
  have H := Lib.hid h
  have hlv := hv.rows.len
  rw [List.length_map] at hlv
  have HLV := Lib.hid hlv
  have HV := Lib.hid hv
  have HF := Lib.hid hf
  have hcv := hv.rows.cap
  have hbv := hv.rows.big
  clear h hf hlen hv hlv
  by_cases hnn : nv = n
  · subst hnn
    go_enter Tryz.func45, Tryz.ntmps45
    go_wp2_with (first | (go_at_call 78; (with_reducible refine hW.out.mono ?_); rintro e w1 ⟨rfl, hb1⟩) | fail)
    have HB1 := Lib.hid hb1
    clear hb1 hW
    go_loopw [8, 27] (fun o i wr => ∃ (k M : Nat) (A3 : Option Addr) (c3 : Nat), k ≤ nv ∧ i = .int .i64 k ∧ o = .slice A3 M c3 ∧ Hid (OwnB wr w.heap.size (.slice A3 M c3) (upB fs (vsOf ms) k)) ∧ Hid (upOk fs (vsOf ms) k = true) ∧ Hid (Below w.heap.size w wr)) (fun _ i _ => nv - (intOf i).toNat)
    case atStart => exact ⟨0, 0, none, 0, Nat.zero_le _, rfl, rfl, OwnB.nil _ _, rfl, HB1.out⟩
    case round =>
      obtain ⟨k, M, A3, c3, hk, rfl, rfl, hown, hok, hbw⟩ := hrel
      by_cases hlt : k < nv
      · have hi : (k : Int) < nv := by omega
        obtain ⟨f, hfk⟩ : ∃ f, fs[k]? = some f := ⟨fs[k]'(by have := HL.out; omega), List.getElem?_eq_getElem _⟩
        obtain ⟨m, hmk⟩ : ∃ m, ms[k]? = some m := ⟨ms[k]'(by have := HLV.out; omega), List.getElem?_eq_getElem _⟩
        obtain ⟨g, rfl, hgl, hce⟩ := (H.out.ext hbw.out).cell k f.cells (by rw [List.getElem?_map, hfk]; rfl)
        obtain ⟨gv, rfl, hgvw, hcev⟩ := HV.out.rows.cell k m.cells (by rw [List.getElem?_map, hmk]; rfl)
        have hsf := HF.out f (List.mem_of_getElem? hfk)
        have hgood : GoodF f := someF_good f hsf
        have Hmk := Lib.hid (HV.out.vals m (List.mem_of_getElem? hmk))
        have hvk : (vsOf ms)[k]? = some m.v := by unfold vsOf; rw [List.getElem?_map, hmk]; rfl
        have HN := Lib.hid (up_next hfk hvk)
        have Hsf := Lib.hid hsf
        have Hgood := Lib.hid hgood
        have hld := ldF_at hce
        have hst := stF_new wr f
        obtain ⟨fk, sz, lo, hi', mo⟩ := f
        have hbn := below_new wr (.cells #[.int .i64 fk, .int .i64 sz, .int .i64 lo, .int .i64 hi', .int .i64 mo] 98)
        have HBn := Lib.hid (hbw.out.trans (below_le hbw.out.size hbn))
        have HK := Lib.hid (Bk.made wr 98 #[.int .i64 fk, .int .i64 sz, .int .i64 lo, .int .i64 hi', .int .i64 mo])
        have HO := Lib.hid (hown.out.ext hbn)
        clear hce hfk hmk hgood hvk hsf hbn
        go_upto_region 10 with fail
        clear hld hst
        generalize wr.heap.size = gf at HK ⊢
        generalize wr.alloc (.cells #[.int .i64 fk, .int .i64 sz, .int .i64 lo, .int .i64 hi', .int .i64 mo] 98) = W at HBn HK HO ⊢
        have HCv : Hid (∀ w', Below W.heap.size W w' → ∀ (j : Nat) (u : Value), m.cells[j]? = some u → w'.cell? ⟨gv, k * 3 + j, none⟩ = some u) := fun w' hb j u hu => by
          have h1 := HBn.out.trans (below_le HBn.out.size hb)
          exact (h1.cell (p := ⟨gv, k * 3 + j, none⟩) hgvw).trans (hcev j u hu)
        clear hcev
        have lf := fun t : Ext W => ldF_bk (f := ⟨fk, sz, lo, hi', mo⟩) (HK.out.ext t.below)
        have lv := fun t : Ext W => ldV_at (m := m) (HCv.out t.w t.below)
        have hFit := fun t : Ext W => refFits_any ⟨fk, sz, lo, hi', mo⟩ Hgood.out m t.w (MVal.ext Hmk.out (HBn.out.trans (below_le HBn.out.size t.below)))
        dsimp only at lf lv hFit
        have hkcv : (k : Int) < (nv : Int) := hi
        cases hfv : fitsV ⟨fk, sz, lo, hi', mo⟩ m.v
        · rw [hfv] at hFit
          have HFit := Lib.hid (fun t => ext_of (hFit t))
          have Hfv := Lib.hid hfv
          clear hFit hfv
          refine wp_region_ext (by kernel_rfl) (by kernel_rfl) ?_
          repeat (go_big_quiet_step (first | (go_at_call 79; with_reducible exact HFit.out _)))
          refine wpQuiet_nil ?_
          intro _ hw'
          obtain ⟨t, hw''⟩ := hw'
          subst hw''
          go_wp2_with fail
          go_ret3
          exact ⟨none, 0, 0, 2, k, rfl, .inr ⟨upOk_not (k := k + 1) (by rw [HN.out.2, Hfv.out, Bool.and_false]), rfl, .inr rfl⟩, HBn.out.trans (below_le HBn.out.size t.below)⟩
        · rw [hfv] at hFit
          have HFit := Lib.hid (fun t => ext_of (hFit t))
          have Hfv := Lib.hid hfv
          clear hFit hfv
          refine wp_region_ext (by kernel_rfl) (by kernel_rfl) ?_
          repeat (go_big_quiet_step (first | (go_at_call 79; with_reducible exact HFit.out _)))
          refine wpQuiet_nil ?_
          intro _ hw'
          obtain ⟨t, hw''⟩ := hw'
          subst hw''
          have HKt := Lib.hid (HK.out.ext t.below)
          have HOt := Lib.hid (HO.out.ext t.below)
          have HBt := Lib.hid (HBn.out.trans (below_le HBn.out.size t.below))
          have HCt := Lib.hid (HCv.out t.w t.below)
          have Hup := Lib.hid (upB_small HF.out k hok.out)
          have hln : Hid ((upB fs (vsOf ms) k).length = M) := HOt.out.rd.len
          have Hwr := Lib.hid (writV_small Hsf.out Hfv.out)
          clear lf lv HFit HK HO HBn HCv hown
          generalize t.w = W2 at HKt HOt HBt HCt ⊢
          have f0 : W2.cell? ⟨gf, 0, none⟩ = some (.int .i64 fk) := HKt.out.cell 0
          have hkk := Hgood.out.kind
          dsimp only at hkk
          have hfx := Hfv.out
          have hhi := someF_hi Hsf.out
          dsimp only at hhi
          rcases hkk with ⟨k1, a1, a2, a3, a4⟩ | ⟨k1, a1, a2⟩ | ⟨k1, a1, a2, a3⟩
          · subst k1
            obtain ⟨nn, hnn', b1, b2⟩ := fits_num (f := ⟨1, sz, lo, hi', mo⟩) rfl hfx
            dsimp only at b1 b2
            have hvn : m.v.n = nn := by rw [hnn']; rfl
            obtain ⟨szn, rfl⟩ : ∃ szn : Nat, sz = szn := ⟨sz.toNat, by omega⟩
            obtain ⟨vn, hvv⟩ : ∃ vn : Nat, m.v.n = vn := ⟨m.v.n.toNat, by omega⟩
            have hm64 : IntKind.u64.wrap m.v.n = m.v.n := by rw [IntKind.wrap_u64]; omega
            have Hvv := Lib.hid hvv
            clear hvn hnn' b1 b2 a1 a2 a4 hfx hhi hvv
            have FS : Hid (∀ w', Below W2.heap.size W2 w' → (Below W2.heap.size W2 w' ∧ w'.cell? ⟨gv, k * 3, none⟩ = some (.int .i64 m.v.n) ∧ w'.cell? ⟨gf, 1, none⟩ = some (.int .i64 szn))) := fun w' hb => ⟨hb, (hb.cell (p := ⟨gv, k * 3, none⟩) (Nat.lt_of_lt_of_le hgvw HBt.out.size)).trans (HCt.out 0 _ rfl), (HKt.out.ext hb).cell 1⟩
            have HNm : Hid (∀ (w' : World) (R : Prop), Below W2.heap.size W2 w' ∧ R → Calls Tryz.prog 61 #[.slice A3 M c3, .int .u64 m.v.n, .int .i64 szn] w' fun e w'' => ∃ A' c', e = .returned (.slice A' (M + szn) c') ∧ OwnB w'' w'.heap.size (.slice A' (M + szn) c') (upB fs (vsOf ms) k ++ leB szn vn) ∧ Below w'.heap.size w' w'') := fun w' R h => by
              rw [Hvv.out]
              exact refNum_nat A3 M c3 _ vn szn szn rfl w' (RdB.ext HOt.out.rd h.1) (by have := Hup.out; have := hln.out; omega) (by omega)
            have KC : Hid (∀ (w' w'' : World) (R : Prop), Below W2.heap.size W2 w' ∧ R → Below w'.heap.size w' w'' → Below W2.heap.size W2 w'') := fun w' w'' R h hb => h.1.trans (below_le h.1.size hb)
            go_wp2_with fail
            go_region_held3 (fun w' => Below W2.heap.size W2 w' ∧ w'.cell? ⟨gv, k * 3, none⟩ = some (.int .i64 m.v.n) ∧ w'.cell? ⟨gf, 1, none⟩ = some (.int .i64 szn)) (first | exact FS.out _ (below_drew1 (Below.refl _ _)) | exact FS.out _ hq4) (first | (go_at_call 61; with_reducible refine (HNm.out _ _ (by assumption)).mono ?_; rintro er w4 ⟨A4, c4, rfl, ho4, hb4⟩; have hq4 : Below W2.heap.size W2 w4 := KC.out _ _ _ (by assumption) hb4) | fail)
            have HB4 := Lib.hid (HBt.out.trans (below_le HBt.out.size hq4))
            have HO4 := Lib.hid (OwnB.more ho4 HBt.out.size)
            clear ho4 hb4 hq4 FS HNm KC
            go_wp2_with fail
            go_roundw
            case rel => exact ⟨k + 1, M + szn, A4, c4, by omega, by go_num, rfl, by
              rw [HN.out.1]
              show OwnB w4 _ _ (upB fs (vsOf ms) k ++ leB (Int.toNat szn) m.v.n.toNat)
              rw [Hvv.out, Int.toNat_natCast, Int.toNat_natCast]
              exact HO4.out, by rw [HN.out.2, hok.out, Hfv.out]; rfl, HB4.out⟩
            case measure => simp [intOf]; omega
          · subst k1
            obtain ⟨ss, hss, b1, b2⟩ := fits_text (f := ⟨2, sz, lo, hi', mo⟩) rfl hfx
            dsimp only at b1 b2
            have hvs : m.v.s = ss := by rw [hss]; rfl
            subst hvs
            have d1 := HCt.out 1 _ rfl
            have HTx := Lib.hid (refText_any A3 M c3 _ m.v.s W2 HOt.out.rd (by have := Hup.out; have := hln.out; omega) (by omega))
            clear hss b1 b2 a1 hfx hhi
            go_wp2_with fail
            with_reducible refine HTx.out.mono ?_
            rintro er w4 ⟨A4, c4, rfl, ho4, hb4⟩
            have HB4 := Lib.hid (HBt.out.trans (below_le HBt.out.size hb4))
            have HO4 := Lib.hid (OwnB.more ho4 HBt.out.size)
            clear ho4 hb4 HTx d1
            go_wp2_with fail
            go_roundw
            case rel => exact ⟨k + 1, M + 2 + m.v.s.size, A4, c4, by omega, by go_num, rfl, by
              rw [HN.out.1]
              exact HO4.out, by rw [HN.out.2, hok.out, Hfv.out]; rfl, HB4.out⟩
            case measure => simp [intOf]; omega
          · subst k1
            have h3 : hi' = 8 ∧ mo = 60 := by
              have hs := Hsf.out
              unfold someF at hs
              simp [sF, nF] at hs
              omega
            obtain ⟨rfl, rfl⟩ := h3
            obtain ⟨ll, hll, b1, b2, b3⟩ := fits_texts (f := ⟨3, sz, lo, 8, 60⟩) rfl hfx
            dsimp only at b1 b2 b3
            have hvl : m.v.l = ll := by rw [hll]; rfl
            subst hvl
            have hlm := RdT.len Hmk.out
            have hmn : m.n ≤ 8 := by omega
            have hcapm := Rd.cap Hmk.out
            have hbigm := Rd.big Hmk.out
            have d2 := HCt.out 2 _ rfl
            have hm64 : ((m.n : Nat) : Int) % 18446744073709551616 = m.n := by omega
            have HNm := Lib.hid (refNum_nat A3 M c3 _ m.n 1 1 rfl W2 HOt.out.rd (by have := Hup.out; have := hln.out; omega) (by omega))
            have B3 := Lib.hid b3
            have HLm := Lib.hid hlm
            clear hll b1 b2 b3 a1 a2 a3 hfx hhi hlm
            go_wp2_with fail
            with_reducible refine HNm.out.mono ?_
            rintro er w4 ⟨A4, c4, rfl, ho4, hb4⟩
            have HB4 := Lib.hid (HBt.out.trans (below_le HBt.out.size hb4))
            have HO4 := Lib.hid (OwnB.more ho4 HBt.out.size)
            have d2' : w4.cell? ⟨gv, k * 3 + 2, none⟩ = some (.slice m.A m.n m.c) := (hb4.cell (p := ⟨gv, k * 3 + 2, none⟩) (Nat.lt_of_lt_of_le hgvw HBt.out.size)).trans d2
            clear ho4 hb4 HNm d2
            go_wp2_with fail
            have Hrm : Hid (RdT w m.A m.n m.c m.v.l) := Hmk.out
            clear d2'
            generalize m.A = mA at Hrm ⊢
            go_loopw [8, 80] (fun o i wr => ∃ (j M2 : Nat) (A5 : Option Addr) (c5 : Nat), j ≤ m.n ∧ i = .int .i64 j ∧ o = .slice A5 M2 c5 ∧ Hid (OwnB wr w.heap.size (.slice A5 M2 c5) (upB fs (vsOf ms) k ++ (leB 1 m.n ++ (m.v.l.take j).flatMap txtB))) ∧ Hid (Below w.heap.size w wr)) (fun _ i _ => m.n - (intOf i).toNat)
            case atStart => exact ⟨0, M + 1, A4, c4, Nat.zero_le _, rfl, rfl, by
              show OwnB w4 _ _ (upB fs (vsOf ms) k ++ (leB 1 m.n ++ []))
              rw [List.append_nil]
              exact HO4.out, HB4.out⟩
            case round =>
              obtain ⟨j, M2, A5, c5, hj, rfl, rfl, hown5, hbw5⟩ := hrel
              by_cases hjl : j < m.n
              · have hji : (j : Int) < m.n := by omega
                obtain ⟨sj, hsj⟩ : ∃ sj, m.v.l[j]? = some sj := ⟨m.v.l[j]'(by have := HLm.out; omega), List.getElem?_eq_getElem _⟩
                obtain ⟨adj, rfl, _, hcj⟩ := Rd.cell (RdT.ext Hrm.out hbw5.out) j (.string sj) (by rw [List.getElem?_map, hsj]; rfl)
                have hs60 := B3.out sj (List.mem_of_getElem? hsj)
                have hlen5 := hown5.out.rd.len
                have hM2 : M2 ≤ 71000 := by
                  have h1 := Hup.out
                  have h2 := flat_len_le (m.v.l.take j) (fun s hs => B3.out s (List.mem_of_mem_take hs))
                  rw [List.length_append, List.length_append, leB_len] at hlen5
                  rw [List.length_take] at h2
                  omega
                have HTx := Lib.hid (refText_any A5 M2 c5 _ sj wr hown5.out.rd (by omega) (by omega))
                have Hsj := Lib.hid hsj
                clear hsj hs60 hlen5 hM2
                go_wp2_with fail
                with_reducible refine HTx.out.mono ?_
                rintro er w6 ⟨A6, c6, rfl, ho6, hb6⟩
                have HB6 := Lib.hid (hbw5.out.trans (below_le hbw5.out.size hb6))
                have HO6 := Lib.hid (OwnB.more ho6 hbw5.out.size)
                clear ho6 hb6 HTx
                go_wp2_with fail
                go_roundw
                case rel => exact ⟨j + 1, M2 + 2 + sj.size, A6, c6, by omega, by go_num, rfl, by
                  have h := HO6.out
                  rw [List.append_assoc, List.append_assoc] at h
                  rw [List.take_add_one, Hsj.out, List.flatMap_append]
                  exact Lib.hid (by simpa using h), HB6.out⟩
                case measure => simp [intOf]; omega
              · obtain rfl : j = m.n := by omega
                go_wp2_with fail
                go_roundw
                case rel => exact ⟨k + 1, M2, A5, c5, by omega, by go_num, rfl, by
                  rw [HN.out.1]
                  have h := hown5.out
                  rw [List.take_of_length_le (by have := HLm.out; omega)] at h
                  show OwnB wr _ _ (upB fs (vsOf ms) k ++ (leB 1 m.v.l.length ++ m.v.l.flatMap txtB))
                  rw [HLm.out]
                  exact h, by rw [HN.out.2, hok.out, Hfv.out]; rfl, hbw5.out⟩
                case measure => simp [intOf]; omega
      · have hkn : k = nv := by omega
        subst hkn
        go_wp2
        go_ret3
        have hz : (List.zip fs (vsOf ms)).length = k := by rw [List.length_zip]; unfold vsOf; rw [List.length_map, HL.out, HLV.out, Nat.min_self]
        have hok' := hok.out
        have hown' := hown.out
        unfold upOk at hok'
        unfold upB at hown'
        rw [List.take_of_length_le (by omega)] at hok' hown'
        refine ⟨_, _, _, 0, 0, rfl, .inl ⟨?_, rfl, hown'⟩, hbw.out⟩
        unfold okAll
        rw [hok', Bool.and_true, decide_eq_true_iff]
        unfold vsOf
        rw [List.length_map, HL.out, HLV.out]
  · have hne : ((nv : Int) != (n : Int)) = true := by rw [bne_iff_ne]; omega
    go_enter Tryz.func45, Tryz.ntmps45
    go_wp2_with (first | (go_at_call 78; (with_reducible refine hW.out.mono ?_); rintro e w1 ⟨rfl, hb1⟩) | fail)
    go_ret3
    refine ⟨none, 0, 0, 1, nv, rfl, .inr ⟨?_, rfl, .inl rfl⟩, hb1⟩
    unfold okAll
    rw [Bool.and_eq_false_iff]
    refine .inl (decide_eq_false ?_)
    unfold vsOf
    rw [List.length_map, HL.out, HLV.out]
    exact hnn
end Go.Proofs.YtpfdbbcfcimmfaaGreatDoor

/-
  staveref1: one.
-/
namespace Go.Proofs.YtpfdbbcfcimmfaaGreatDoor
open Go.RowKit
attribute [local go_sem ↓] sliced_past
attribute [local go_sem] w8_nn w8_256 wrap_i64_w8 wrap64_w8 pastA_zero

theorem wadd {a b c : Nat} (h : a + b = c) (hn : c ≤ 9223372036854775807) : wrap64 ((a : Int) + (b : Int)) = (c : Int) := by
  rw [IntWalk.wrap64_in _ ⟨by omega, by omega⟩]; omega
theorem wsub {a b c : Nat} (h : a - b = c) (hb : b ≤ a) (hn : a ≤ 9223372036854775807) : wrap64 ((a : Int) - (b : Int)) = (c : Int) := by
  rw [IntWalk.wrap64_in _ ⟨by omega, by omega⟩]; omega
theorem wnat {a : Nat} (hn : a ≤ 9223372036854775807) : wrap64 (a : Int) = (a : Int) := IntWalk.wrap64_in _ ⟨by omega, by omega⟩
theorem leN2_lt (l : List UInt8) (h : l.length ≤ 2) : leN l < 65536 := by
  have := leN_lt l
  have h2 : 256 ^ l.length ≤ 256 ^ 2 := Nat.pow_le_pow_right (by omega) h
  omega
set_option maxRecDepth 100000 in
set_option maxHeartbeats 1000000 in
/-- the walk of one, its sums under names -/
theorem refOne_w (A : Option Addr) (n c : Nat) (l : List UInt8) (p d q v u : Nat) (lo hi : Int) (w : World) (hr : RdB w A n c l) (hp : p ≤ n) (hn : n ≤ 1000000) (hd : n - p = d) (hq : p + 2 = q) (hd2 : 2 ≤ d) (hv : leN ((l.drop p).take 2) = v) (hu : q + v = u) (hv6 : v < 65536) :
    Calls Tryz.prog 84 #[.slice A n c, .int .i64 p, .int .i64 lo, .int .i64 hi] w fun er w' => (∃ (s : ByteArray) (p' : Nat) (b' : Int), er = .returned (.tuple #[.string s, .int .i64 p', .int .i64 b']) ∧ (((v : Int) < lo ∧ p' = p ∧ b' = 2) ∨ (lo ≤ (v : Int) ∧ hi < (v : Int) ∧ p' = p ∧ b' = 2) ∨ (lo ≤ (v : Int) ∧ (v : Int) ≤ hi ∧ d < v + 2 ∧ p' = p ∧ b' = 3) ∨ (lo ≤ (v : Int) ∧ (v : Int) ≤ hi ∧ v + 2 ≤ d ∧ p' = u ∧ b' = 0 ∧ s = ⟨((l.drop q).take v).toArray⟩))) ∧ w = w' := by
  have hcap := hr.cap
  have q2 : ¬ (d : Int) < 2 := by omega
  have i1 : (p : Int) ≤ (q : Int) := by omega
  have i2 : (q : Int) ≤ (c : Int) := by omega
  have i3 : q - p = 2 := by omega
  have hr2 := (hr.past' p hp).upto 2 (by omega)
  have HBg := Lib.hid (refBig_any (pastA A p c 1) 2 (c - p) ((l.drop p).take 2) w hr2 (by omega))
  rw [hv] at HBg
  have Hr := Lib.hid hr
  obtain ⟨d2, hd2'⟩ : ∃ d2, d - 2 = d2 := ⟨_, rfl⟩
  have HI : Hid (¬ (d2 : Int) < v → (q : Int) ≤ (u : Int) ∧ (u : Int) ≤ (c : Int) ∧ u - q = v ∧ q ≤ n ∧ v ≤ n - q ∧ v + 2 ≤ d) := fun h => by omega
  have HJ : Hid ((d2 : Int) < v → d < v + 2) := fun h => by omega
  have e1 := wsub hd hp (by omega)
  have e2 : wrap64 ((p : Int) + 2) = (q : Int) := wadd (b := 2) hq (by omega)
  have e3 : wrap64 (v : Int) = (v : Int) := wnat (by clear e1 e2; omega)
  have e4 : wrap64 ((d : Int) - 2) = (d2 : Int) := wsub (b := 2) hd2' hd2 (by clear e1 e2 e3; omega)
  have e5 := wadd hu (by clear e1 e2 e3 e4; omega)
  clear hr2 hr hv hd hq hu hd2' hp hn hd2 hv6 hcap
  by_cases h : (v : Int) < lo
  · have r1 : decide ((v : Int) < lo) = true := decide_eq_true h
    go_enter Tryz.func84, Tryz.ntmps84
    go_wp2_with fail
    with_reducible refine HBg.out.mono ?_
    rintro e w1 ⟨rfl, rfl⟩
    go_wp2_with fail
    go_ret3
    exact ⟨⟨_, p, 2, rfl, .inl ⟨h, rfl, rfl⟩⟩, rfl⟩
  · have r1 : decide ((v : Int) < lo) = false := decide_eq_false h
    by_cases h' : hi < (v : Int)
    · have r2 : decide (hi < (v : Int)) = true := decide_eq_true h'
      go_enter Tryz.func84, Tryz.ntmps84
      go_wp2_with fail
      with_reducible refine HBg.out.mono ?_
      rintro e w1 ⟨rfl, rfl⟩
      go_wp2_with fail
      go_ret3
      exact ⟨⟨_, p, 2, rfl, .inr (.inl ⟨h, h', rfl, rfl⟩)⟩, rfl⟩
    · have r2 : decide (hi < (v : Int)) = false := decide_eq_false h'
      by_cases h'' : (d2 : Int) < (v : Int)
      · have r3 : decide ((d2 : Int) < (v : Int)) = true := decide_eq_true h''
        go_enter Tryz.func84, Tryz.ntmps84
        go_wp2_with fail
        with_reducible refine HBg.out.mono ?_
        rintro e w1 ⟨rfl, rfl⟩
        go_wp2_with fail
        go_ret3
        exact ⟨⟨_, p, 3, rfl, .inr (.inr (.inl ⟨h, h', HJ.out h'', rfl, rfl⟩))⟩, rfl⟩
      · have r3 : decide ((d2 : Int) < (v : Int)) = false := decide_eq_false h''
        obtain ⟨i4, i5, i6, i7, i8, i9⟩ := HI.out h''
        have hr3 := (Hr.out.past' q i7).upto v i8
        have H9 := Lib.hid i9
        clear i7 i8 i9
        have hcv := conv_any hr3
        clear hr3
        go_enter Tryz.func84, Tryz.ntmps84
        go_wp2_with fail
        with_reducible refine HBg.out.mono ?_
        rintro e w1 ⟨rfl, rfl⟩
        go_wp2_with fail
        go_ret3
        exact ⟨⟨⟨((l.drop q).take v).toArray⟩, u, 0, by
          show Ending.returned (.tuple #[.string ⟨((l.drop q).take v).toArray⟩, .int .i64 (wrap64 ((q : Int) + (v : Int))), .int .i64 0]) = _
          rw [e5], .inr (.inr (.inr ⟨h, h', H9.out, rfl, rfl, rfl⟩))⟩, rfl⟩
set_option maxRecDepth 100000 in
theorem refOne_any (A : Option Addr) (n c : Nat) (l : List UInt8) (p : Nat) (lo hi : Int) (w : World) (hr : RdB w A n c l) (hp : p ≤ n) (hn : n ≤ 1000000) :
    Calls Tryz.prog 84 #[.slice A n c, .int .i64 p, .int .i64 lo, .int .i64 hi] w fun er w' => ∃ (s : ByteArray) (p' : Nat) (b' : Int), er = .returned (.tuple #[.string s, .int .i64 p', .int .i64 b']) ∧ w = w' ∧ p' ≤ n ∧ TextR lo hi l p s p' b' := by
  have hlen := hr.len
  have hld : (l.drop p).length = n - p := by rw [List.length_drop, hlen]
  by_cases hd : n - p < 2
  · have e1 := wsub (a := n) (b := p) rfl hp (by omega)
    have q2 : decide (((n - p : Nat) : Int) < 2) = true := decide_eq_true (by clear e1; omega)
    have HT : Hid (TextR lo hi l p nul p 3) := .inr ⟨by unfold getT; rw [getN_cut (by rw [hld]; exact hd)], by decide⟩
    have Hp := Lib.hid hp
    clear hd hld hlen hp hn
    go_enter Tryz.func84, Tryz.ntmps84
    go_wp2_with fail
    go_ret3
    exact ⟨_, p, 3, rfl, rfl, Hp.out, HT.out⟩
  · have hv := leN2_lt ((l.drop p).take 2) (by rw [List.length_take]; omega)
    refine (refOne_w A n c l p (n - p) (p + 2) _ _ lo hi w hr hp hn rfl rfl (by omega) rfl rfl hv).mono ?_
    rintro er w' ⟨⟨s, p', b', rfl, hc⟩, rfl⟩
    refine ⟨s, p', b', rfl, rfl, ?_⟩
    have hN : getN 2 lo hi (l.drop p) = if lo ≤ (leN ((l.drop p).take 2) : Int) ∧ (leN ((l.drop p).take 2) : Int) ≤ hi then .ok (leN ((l.drop p).take 2), (l.drop p).drop 2) else .error 2 := by
      unfold getN
      rw [if_neg (by rw [hld]; omega)]
    unfold TextR getT
    rw [hN]
    have hdd : ((l.drop p).drop 2).length = n - p - 2 := by rw [List.length_drop, hld]
    rcases hc with ⟨h1, rfl, rfl⟩ | ⟨h0, h1, rfl, rfl⟩ | ⟨h0, h1, h2, rfl, rfl⟩ | ⟨h0, h1, h2, rfl, rfl, rfl⟩
    · rw [if_neg (by omega)]
      exact ⟨hp, .inr ⟨rfl, by decide⟩⟩
    · rw [if_neg (by omega)]
      exact ⟨hp, .inr ⟨rfl, by decide⟩⟩
    · rw [if_pos ⟨h0, h1⟩]
      simp only [Int.toNat_natCast]
      rw [if_pos (by rw [hdd]; omega)]
      exact ⟨hp, .inr ⟨rfl, by decide⟩⟩
    · rw [if_pos ⟨h0, h1⟩]
      simp only [Int.toNat_natCast]
      rw [if_neg (by rw [hdd]; omega)]
      have hd2 : (l.drop p).drop 2 = l.drop (p + 2) := by rw [List.drop_drop]
      rw [hd2]
      exact ⟨by omega, .inl ⟨_, rfl, trivial, by rw [List.drop_drop]⟩⟩
end Go.Proofs.YtpfdbbcfcimmfaaGreatDoor

/-
  staveref1: GetFields.
-/
namespace Go.Proofs.YtpfdbbcfcimmfaaGreatDoor
open Go.RowKit
attribute [local go_sem ↓] ldF_eq stF_eq ldV_eq sliced_past
attribute [local go_sem] w8_nn w8_256 wrap_i64_w8 wrap64_w8 pastA_zero

/-- a statement inside a switch whose ways end at the switch's end: what follows the switch follows it -/
theorem wp_inB {P : Program} {s : Code} {K : Act → World → Prop} {Q' : Exit → Act → World → Prop} {a : Act} {w : World} {id : Nat} (h : s.wp P (Exit.then K (Exit.inBlock id (Exit.then K Q'))) a w) : s.wp P (Exit.inBlock id (Exit.then K Q')) a w := by
  refine wp_mono h ?_
  intro e a' w' hq
  cases e <;> exact hq
theorem intOf_i64 (z : Int) : intOf (Value.int .i64 z) = z := rfl
/-- a value that GetFields keeps: it reads, and lies apart from the slice it goes into -/
structure SepB (w : World) (B : Nat) (ob : Option Nat) (m : MVal) : Prop where
  ok : m.ok w
  at_ : ∀ ad, m.A = some ad → B ≤ ad.block ∧ ad.block < w.heap.size ∧ ob ≠ some ad.block
theorem SepB.ext {w w' : World} {B : Nat} {ob : Option Nat} {m : MVal} (h : SepB w B ob m) (hb : Below w.heap.size w w') : SepB w' B ob m :=
  ⟨MVal.ext h.ok hb, fun ad e => by
    obtain ⟨a, b, c⟩ := h.at_ ad e
    exact ⟨a, Nat.lt_of_lt_of_le b hb.size, c⟩⟩
theorem SepB.grown {w w' : World} {B : Nat} {ob : Option Nat} {m : MVal} (h : SepB w B ob m) (hg : w.grownBy w' ob) : SepB w' B ob m :=
  ⟨RdT.kept h.ok hg (fun ad e => (h.at_ ad e).2.2), fun ad e => by
    obtain ⟨a, b, c⟩ := h.at_ ad e
    exact ⟨a, Nat.lt_of_lt_of_le b hg.size, c⟩⟩
theorem SepB.own {w : World} {B N : Nat} {ob ob' : Option Nat} {m : MVal} (h : SepB w B ob m) (hN : ∀ ad, m.A = some ad → ad.block < N) (ho : ob' = ob ∨ ob' = some N) : SepB w B ob' m :=
  ⟨h.ok, fun ad e => by
    obtain ⟨a, b, c⟩ := h.at_ ad e
    refine ⟨a, b, ?_⟩
    rcases ho with rfl | rfl
    · exact c
    · intro e2
      have := hN ad e
      injection e2 with e2
      omega⟩
/-- what GetFields hands back -/
def RGetR (fs : List Fld) (l : List UInt8) (B : Nat) (w' : World) (A : Option Addr) (n c : Nat) (b : Int) : Prop :=
  (b = 0 ∧ ∃ ms, RdV w' A n c ms ∧ getAll fs l = .ok (vsOf ms) ∧ ∀ m ∈ ms, ∀ ad, m.A = some ad → B ≤ ad.block) ∨ (b ≠ 0 ∧ getAll fs l = .error b)
theorem someF_lh {f : Fld} (hf : f ∈ someF) : 0 ≤ f.lo ∧ f.lo ≤ f.hi := by
  unfold someF at hf
  simp only [List.mem_cons, List.not_mem_nil, or_false] at hf
  rcases hf with rfl | rfl | rfl | rfl | rfl | rfl | rfl | rfl | rfl <;> decide
theorem getV_num {sz lo hi most : Int} {szn : Nat} (hs : sz = szn) (bs : List UInt8) : getV ⟨1, sz, lo, hi, most⟩ bs = (match getN szn lo hi bs with | .error e => .error e | .ok (n, r) => .ok (⟨n, ⟨#[]⟩, []⟩, r)) := by
  subst hs
  unfold getV
  rw [if_pos rfl]
  simp only [Int.toNat_natCast]
  cases getN szn lo hi bs <;> rfl
theorem getV_numE {sz lo hi most : Int} {szn : Nat} {bs : List UInt8} {e : Int} (hs : sz = szn) (h : getN szn lo hi bs = .error e) : getV ⟨1, sz, lo, hi, most⟩ bs = .error e := by rw [getV_num hs, h]
theorem getV_numO {sz lo hi most : Int} {szn : Nat} {bs r : List UInt8} {n : Int} (hs : sz = szn) (h : getN szn lo hi bs = .ok (n, r)) : getV ⟨1, sz, lo, hi, most⟩ bs = .ok (⟨n, ⟨#[]⟩, []⟩, r) := by rw [getV_num hs, h]
theorem getV_text {sz lo hi most : Int} (bs : List UInt8) : getV ⟨2, sz, lo, hi, most⟩ bs = (match getT lo hi bs with | .error e => .error e | .ok (s, r) => .ok (⟨0, s, []⟩, r)) := by
  unfold getV
  rw [if_neg (show ¬ (2 : Int) = 1 by decide), if_pos rfl]
  cases getT lo hi bs <;> rfl
theorem getV_textsN {sz lo hi most : Int} {bs : List UInt8} {e : Int} (h : getN 1 lo hi bs = .error e) : getV ⟨3, sz, lo, hi, most⟩ bs = .error e := by
  unfold getV
  rw [if_neg (show ¬ (3 : Int) = 1 by decide), if_neg (show ¬ (3 : Int) = 2 by decide), h]
theorem getN_is {size : Nat} {lo hi : Int} {bs : List UInt8} (h : size ≤ bs.length) : getN size lo hi bs = if lo ≤ (leN (bs.take size) : Int) ∧ (leN (bs.take size) : Int) ≤ hi then .ok (leN (bs.take size), bs.drop size) else .error 2 := by
  unfold getN
  rw [if_neg (by omega)]
set_option maxRecDepth 100000 in
set_option maxHeartbeats 2000000 in
theorem refGet_any (A : Option Addr) (n c : Nat) (fs : List Fld) (Ab : Option Addr) (nb cb : Nat) (l : List UInt8) (w : World) (hf : ∀ f ∈ fs, f ∈ someF) (h : RdF w A n c fs) (hb : RdB w Ab nb cb l) (hn : n ≤ 100) (hnb : nb ≤ 1000000) :
    Calls Tryz.prog 51 #[.slice A n c, .slice Ab nb cb] w fun e w' => ∃ (A' : Option Addr) (n' c' : Nat) (b at_ : Int), e = .returned (.tuple #[.slice A' n' c', .int .i64 b, .int .i64 at_]) ∧ RGetR fs l w.heap.size w' A' n' c' b ∧ Below w.heap.size w w' := by
  obtain ⟨ii, hi0, hz0, hs0, hy0⟩ := info_parts info_v
  obtain ⟨is, hi1, hz1, hs1, hy1⟩ := info_parts info_s
  have hW := Lib.hid (refRFs_any A n c fs hf w h)
  have hcap := h.cap
  have hbig := h.big
  have hlen := h.len
  rw [List.length_map] at hlen
  have hcb := hb.cap
  have hbb := hb.big
  have HL := Lib.hid hlen
  have H := Lib.hid h
  have HBs := Lib.hid hb
  have HF := Lib.hid hf
  have HI := Lib.hid hi0
  have HZ := Lib.hid hz0
  have HS := Lib.hid hs0
  have HY := Lib.hid hy0
  have HI1 := Lib.hid hi1
  have HZ1 := Lib.hid hz1
  have HS1 := Lib.hid hs1
  have HY1 := Lib.hid hy1
  clear h hf hlen hb hi0 hz0 hs0 hy0 hi1 hz1 hs1 hy1
  go_enter Tryz.func51, Tryz.ntmps51
  go_wp2_with (first | (go_at_call 78; (with_reducible refine hW.out.mono ?_); rintro e w1 ⟨rfl, hb1⟩) | fail)
  have HB1 := Lib.hid hb1
  clear hb1 hW
  go_loopw [8, 9, 26] (fun o at_ i wr => ∃ (k : Nat) (ms : List MVal) (A3 : Option Addr) (c3 pj : Nat), k ≤ n ∧ i = .int .i64 k ∧ o = .slice A3 k c3 ∧ at_ = .int .i64 pj ∧ Hid (wr.ownsRow w.heap.size 101 3 (.slice A3 k c3) k (ms.flatMap MVal.cells)) ∧ Hid (∀ m ∈ ms, SepB wr w.heap.size (Value.slice A3 k c3).ownBlock m) ∧ Hid (Below w.heap.size w wr) ∧ pj ≤ nb ∧ Hid (GtR fs l k (vsOf ms) pj)) (fun _ _ i _ => n - (intOf i).toNat)
  case atStart => exact ⟨0, [], none, 0, 0, Nat.zero_le _, rfl, rfl, rfl, World.ownsRow_nil _ _ _ _, fun m hm => absurd hm List.not_mem_nil, HB1.out, Nat.zero_le _, GtR.start⟩
  case round =>
    obtain ⟨k, ms, A3, c3, pj, hk, rfl, rfl, rfl, hOwn, hSep, hBl, hpj, hGt⟩ := hrel
    by_cases hlt : k < n
    · have hi : (k : Int) < n := by omega
      obtain ⟨f, hfk⟩ : ∃ f, fs[k]? = some f := ⟨fs[k]'(by have := HL.out; omega), List.getElem?_eq_getElem _⟩
      obtain ⟨g, rfl, hgl, hce⟩ := (H.out.ext hBl.out).cell k f.cells (by rw [List.getElem?_map, hfk]; rfl)
      have hld := ldF_at hce
      have hst := stF_new wr f
      have hbn := below_new wr (.cells #[.int .i64 f.kind, .int .i64 f.size, .int .i64 f.lo, .int .i64 f.hi, .int .i64 f.most] 98)
      have hbk := Bk.made wr 98 #[.int .i64 f.kind, .int .i64 f.size, .int .i64 f.lo, .int .i64 f.hi, .int .i64 f.most]
      have Hfk := Lib.hid hfk
      have Hfs := Lib.hid (HF.out f (List.mem_of_getElem? hfk))
      have Hbn := Lib.hid hbn
      have Hbk := Lib.hid hbk
      clear hce hfk hbn hbk
      have hbn2 := below_new (wr.alloc (.cells #[.int .i64 f.kind, .int .i64 f.size, .int .i64 f.lo, .int .i64 f.hi, .int .i64 f.most] 98)) (.cells #[.int .i64 0, .string ⟨#[]⟩, .slice none 0 0] 101)
      have Hbw2 := Lib.hid (Hbn.out.trans (below_le Hbn.out.size hbn2))
      have HKf := Lib.hid (Bk.ext Hbk.out hbn2)
      have HKv := Lib.hid (Bk.made (wr.alloc (.cells #[.int .i64 f.kind, .int .i64 f.size, .int .i64 f.lo, .int .i64 f.hi, .int .i64 f.most] 98)) 101 #[.int .i64 0, .string ⟨#[]⟩, .slice none 0 0])
      have hsz : ((wr.alloc (.cells #[.int .i64 f.kind, .int .i64 f.size, .int .i64 f.lo, .int .i64 f.hi, .int .i64 f.most] 98)).alloc (.cells #[.int .i64 0, .string ⟨#[]⟩, .slice none 0 0] 101)).heap.size = wr.heap.size + 2 := by simp
      have e0 := HKf.out.cell 0
      have Hsz := Lib.hid hsz
      clear hsz hbn2
      go_upto_if 33 with fail
      clear hst hld e0
      generalize ((wr.alloc (.cells #[.int .i64 f.kind, .int .i64 f.size, .int .i64 f.lo, .int .i64 f.hi, .int .i64 f.most] 98)).alloc (.cells #[.int .i64 0, .string ⟨#[]⟩, .slice none 0 0] 101)) = W2 at HKf HKv Hbw2 Hsz ⊢
      have HKv' : Hid (Bk W2 (wr.heap.size + 1) 101 #[.int .i64 0, .string ⟨#[]⟩, .slice none 0 0]) := by
        have := HKv.out
        simp at this
        exact this
      clear HKv
      refine wp_inB ?_
      go_cut [13, 14] from 27 to 144 (fun s13 s14 wx => ∃ (m : MVal) (p2 : Nat) (b2 : Int), s13 = .int .i64 p2 ∧ s14 = .int .i64 b2 ∧ Bk wx (wr.heap.size + 1) 101 #[.int .i64 m.v.n, .string m.v.s, .slice m.A m.n m.c] ∧ Below wr.heap.size wr wx ∧ wr.heap.size + 2 ≤ wx.heap.size ∧ m.ok wx ∧ (∀ ad, m.A = some ad → wr.heap.size + 2 ≤ ad.block ∧ ad.block < wx.heap.size) ∧ p2 ≤ nb ∧ ValueR f l pj m.v p2 b2)
      case first =>
        have f1 := HKf.out.cell 1
        have f2 := HKf.out.cell 2
        have f3 := HKf.out.cell 3
        have f4 := HKf.out.cell 4
        have hbl2 := Hbw2.out
        have hin := hBl.out.trans (below_le hBl.out.size hbl2)
        have HR2 := Lib.hid (HBs.out.ext hin)
        have hgood := someF_good f Hfs.out
        have Hhi := Lib.hid (And.intro (someF_hi Hfs.out) (someF_lh Hfs.out))
        clear hbl2 hin hi hlt
        obtain ⟨fk, sz, lo, hi', mo⟩ := f
        dsimp only at f1 f2 f3 f4 Hhi
        have hkk := hgood.kind
        dsimp only at hkk
        have Hfs2 := Lib.hid Hfs.out
        clear hgood
        rcases hkk with ⟨k1, a1, a2, a3, a4⟩ | ⟨k1, a1, a2⟩ | ⟨k1, a1, a2, a3⟩
        · as_aux_lemma =>
            subst k1
            obtain ⟨szn, rfl⟩ : ∃ szn : Nat, sz = szn := ⟨sz.toNat, by omega⟩
            have hs8 : szn ≤ 8 := by omega
            have hll := HR2.out.len
            have hld : (l.drop pj).length = nb - pj := by rw [List.length_drop, hll]
            obtain ⟨d, hd⟩ : ∃ d, nb - pj = d := ⟨_, rfl⟩
            rw [hd] at hld
            by_cases hds : d < szn
            · have e1 := wsub hd hpj (by omega)
              have q1 : decide (d < szn) = true := decide_eq_true hds
              have k33 : ((1 : Int) == 1) = true := rfl
              have HE : Hid (getV ⟨1, szn, lo, hi', mo⟩ (l.drop pj) = .error 3) := getV_numE rfl (getN_cut (by rw [hld]; exact hds))
              have HPJ := Lib.hid hpj
              clear hds hd hld hll a1 a2 a3 a4 hpj hnb hcb hbb hcap hbig hk hgl
              go_wp2_with fail
              go_ret3
              exact ⟨_, _, _, 3, ⟨_, rfl⟩, .inr ⟨by decide, hGt.out.bad Hfk.out HE.out⟩, hBl.out.trans (below_le hBl.out.size Hbw2.out)⟩
            · obtain ⟨q, hq⟩ : ∃ q, pj + szn = q := ⟨_, rfl⟩
              have i1 : (pj : Int) ≤ (q : Int) := by omega
              have i2 : (q : Int) ≤ (cb : Int) := by omega
              have i3 : q - pj = szn := by omega
              have q1 : decide (d < szn) = false := decide_eq_false hds
              have k33 : ((1 : Int) == 1) = true := rfl
              have hr2 := (HR2.out.past' pj hpj).upto szn (by omega)
              have hN := getN_is (size := szn) (lo := lo) (hi := hi') (bs := l.drop pj) (by omega)
              have hu8 := leN_lt ((l.drop pj).take szn)
              have hlt8 : ((l.drop pj).take szn).length = szn := by rw [List.length_take]; omega
              rw [hlt8] at hu8
              obtain ⟨u, hu⟩ : ∃ u, leN ((l.drop pj).take szn) = u := ⟨_, rfl⟩
              have HBg := Lib.hid (refBig_any (pastA Ab pj cb 1) szn (cb - pj) ((l.drop pj).take szn) W2 hr2 hs8)
              rw [hu] at hN HBg hu8
              rw [List.drop_drop, hq] at hN
              have HN := Lib.hid hN
              have hlw : IntKind.u64.wrap lo = lo := by rw [IntKind.wrap_u64]; have := Hhi.out; omega
              have hhw : IntKind.u64.wrap hi' = hi' := by rw [IntKind.wrap_u64]; have := Hhi.out; omega
              have Hq := Lib.hid (show q ≤ nb by omega)
              have hwn : (u : Int) ≤ hi' → wrap64 (u : Int) = (u : Int) := fun h => wnat (by have := Hhi.out; omega)
              have He1 := Lib.hid (wsub hd hpj (by omega))
              have He2 := Lib.hid (wadd hq (by omega))
              clear hds hd hld hll hr2 hN hu8 hlt8 hu a1 a2 a3 a4 hq hs8 hpj hnb hcb hbb hcap hbig hk hgl
              by_cases h1 : (u : Int) < lo
              · have r1 : decide ((u : Int) < lo) = true := decide_eq_true h1
                have HE : Hid (getV ⟨1, szn, lo, hi', mo⟩ (l.drop pj) = .error 2) := getV_numE rfl (by rw [HN.out, if_neg (by omega)])
                clear h1 hwn
                have e1 := He1.out
                have e2 := He2.out
                go_wp2_with fail
                with_reducible refine HBg.out.mono ?_
                rintro er w4 ⟨rfl, rfl⟩
                go_wp2_with fail
                go_ret3
                exact ⟨_, _, _, 2, _, rfl, .inr ⟨by decide, hGt.out.bad Hfk.out HE.out⟩, hBl.out.trans (below_le hBl.out.size Hbw2.out)⟩
              · have r1 : decide ((u : Int) < lo) = false := decide_eq_false h1
                by_cases h2 : hi' < (u : Int)
                · have r2 : decide (hi' < (u : Int)) = true := decide_eq_true h2
                  have HE : Hid (getV ⟨1, szn, lo, hi', mo⟩ (l.drop pj) = .error 2) := getV_numE rfl (by rw [HN.out, if_neg (by omega)])
                  clear h1 h2 hwn
                  have e1 := He1.out
                  have e2 := He2.out
                  go_wp2_with fail
                  with_reducible refine HBg.out.mono ?_
                  rintro er w4 ⟨rfl, rfl⟩
                  go_wp2_with fail
                  go_ret3
                  exact ⟨_, _, _, 2, _, rfl, .inr ⟨by decide, hGt.out.bad Hfk.out HE.out⟩, hBl.out.trans (below_le hBl.out.size Hbw2.out)⟩
                · have r2 : decide (hi' < (u : Int)) = false := decide_eq_false h2
                  have HE : Hid (getV ⟨1, szn, lo, hi', mo⟩ (l.drop pj) = .ok (⟨u, ⟨#[]⟩, []⟩, l.drop q)) := getV_numO rfl (by rw [HN.out, if_pos (by omega)])
                  have hw3 := hwn (by omega)
                  have g0 := HKv'.out.cell 0
                  have g1 := HKv'.out.thaw 0
                  clear h1 h2 hwn
                  have e1 := He1.out
                  have e2 := He2.out
                  go_wp2_with fail
                  with_reducible refine HBg.out.mono ?_
                  rintro er w4 ⟨rfl, rfl⟩
                  go_wp2_with fail
                  go_region
                  go_wp2_with fail
                  go_meet
                  case rel =>
                    refine ⟨numM u, q, 0, by rw [e2], rfl, Bk.drawn1 (HKv'.out.put 0 (.int .i64 u)), below_drew1 (below_grown Hbw2.out Hbw2.out.size (grown_set W2 ⟨wr.heap.size + 1, 0, none⟩ _) (by show _ ≤ wr.heap.size + 1; omega)), ?_, RdT.nil _, (fun ad h => by cases h), Hq.out, .inl ⟨rfl, HE.out⟩⟩
                    have h2 := Hsz.out
                    show _ ≤ (W2.setCell _ _).heap.size
                    simp [World.setCell, h2]
        · as_aux_lemma =>
            subst k1
            have HT := Lib.hid (refOne_any Ab nb cb l pj lo hi' W2 HR2.out hpj hnb)
            have k33 : ((2 : Int) == 1) = false := rfl
            have g0 := HKv'.out.cell 1
            have g1 := HKv'.out.thaw 1
            clear a1 a2 hpj hnb hcb hbb hcap hbig hk hgl
            go_wp2_with fail
            with_reducible refine HT.out.mono ?_
            rintro er w4 ⟨s, p2, b2, rfl, rfl, hp2, hTx⟩
            have HTx := Lib.hid hTx
            have Hp2 := Lib.hid hp2
            clear hTx hp2
            go_wp2_with fail
            go_meet
            case rel =>
              refine ⟨strM s, p2, b2, rfl, rfl, HKv'.out.put 1 (.string s), below_grown Hbw2.out Hbw2.out.size (grown_set W2 ⟨wr.heap.size + 1, 1, none⟩ _) (by show _ ≤ wr.heap.size + 1; omega), ?_, RdT.nil _, (fun ad h => by cases h), Hp2.out, ?_⟩
              · have h2 := Hsz.out
                show _ ≤ (W2.setCell _ _).heap.size
                simp [World.setCell, h2]
              · rcases HTx.out with ⟨r, h1, h2, h3⟩ | ⟨h1, h2⟩
                · refine .inl ⟨h2, ?_⟩
                  rw [getV_text, h1]
                  subst h3
                  rfl
                · refine .inr ⟨h2, ?_⟩
                  rw [getV_text, h1]
        · as_aux_lemma =>
            subst k1
            have h3 : lo = 1 ∧ hi' = 8 ∧ mo = 60 := by
              have hs := Hfs2.out
              unfold someF at hs
              simp [sF, nF] at hs
              omega
            obtain ⟨rfl, rfl, rfl⟩ := h3
            have k33 : ((3 : Int) == 1) = false := rfl
            have hll := HR2.out.len
            have hld : (l.drop pj).length = nb - pj := by rw [List.length_drop, hll]
            obtain ⟨d, hd⟩ : ∃ d, nb - pj = d := ⟨_, rfl⟩
            rw [hd] at hld
            by_cases hds : d < 1
            · as_aux_lemma =>
                have q1 : decide ((d : Int) < 1) = true := decide_eq_true (by omega)
                have e1 := wsub hd hpj (by omega)
                have HE : Hid (getV ⟨3, sz, 1, 8, 60⟩ (l.drop pj) = .error 3) := getV_textsN (getN_cut (by rw [hld]; exact hds))
                clear hds hd hld hll a1 a2 a3 hpj hnb hcb hbb hcap hbig hk hgl
                go_wp2_with fail
                go_ret3
                exact ⟨_, _, _, 3, ⟨_, rfl⟩, .inr ⟨by decide, hGt.out.bad Hfk.out HE.out⟩, hBl.out.trans (below_le hBl.out.size Hbw2.out)⟩
            · as_aux_lemma =>
                have q1 : decide ((d : Int) < 1) = false := decide_eq_false (by omega)
                obtain ⟨ad, x, rfl, hx, hxk, hcx⟩ := HR2.out.get (k := pj) (by omega)
                have hw8 := w8_lt x
                have hl1 : (l.drop pj).take 1 = [x] := by
                  have h1 := List.take_add (l := l) (i := pj) (j := 1)
                  rw [hx.out] at h1
                  exact (List.append_cancel_left h1).symm
                have hle : (leN ((l.drop pj).take 1) : Int) = w8 x := by
                  rw [hl1]
                  show ((x.toNat + 256 * leN [] : Nat) : Int) = _
                  unfold w8
                  simp [leN]
                have hN := getN_is (size := 1) (lo := 1) (hi := 8) (bs := l.drop pj) (by omega)
                rw [hle, List.drop_drop] at hN
                have HN := Lib.hid hN
                have Hpj1 := Lib.hid (show pj + 1 ≤ nb by omega)
                have He1 := Lib.hid (wsub hd hpj (by omega))
                have He2 := Lib.hid (show wrap64 ((pj : Int) + 1) = ((pj + 1 : Nat) : Int) from wadd (b := 1) rfl (by omega))
                have HPN := Lib.hid (And.intro hpj hnb)
                have hpc : (pj : Int) < nb := by omega
                clear hN hle hl1 hx hxk hds hd hld hll a1 a2 a3 hpj hnb hcb hbb hcap hbig hk hgl
                by_cases h1 : w8 x < 1
                · as_aux_lemma =>
                    have HE : Hid (getV ⟨3, sz, 1, 8, 60⟩ (l.drop pj) = .error 2) := getV_textsN (by rw [HN.out, if_neg (by omega)])
                    have r1 : decide (w8 x < 1) = true := decide_eq_true h1
                    have e1 := He1.out
                    clear hw8 h1
                    go_wp2_with fail
                    go_ret3
                    first
                      | exact ⟨_, _, _, 2, ⟨_, rfl⟩, .inr ⟨by decide, hGt.out.bad Hfk.out HE.out⟩, hBl.out.trans (below_le hBl.out.size Hbw2.out)⟩
                      | exact ⟨_, _, _, 2, _, rfl, .inr ⟨by decide, hGt.out.bad Hfk.out HE.out⟩, hBl.out.trans (below_le hBl.out.size Hbw2.out)⟩
                · as_aux_lemma =>
                    have r1 : decide (w8 x < 1) = false := decide_eq_false h1
                    by_cases h2 : 8 < w8 x
                    · as_aux_lemma =>
                        have HE : Hid (getV ⟨3, sz, 1, 8, 60⟩ (l.drop pj) = .error 2) := getV_textsN (by rw [HN.out, if_neg (by omega)])
                        have r2 : decide (8 < w8 x) = true := decide_eq_true h2
                        have e1 := He1.out
                        clear hw8 h1 h2
                        go_wp2_with fail
                        go_ret3
                        first
                          | exact ⟨_, _, _, 2, ⟨_, rfl⟩, .inr ⟨by decide, hGt.out.bad Hfk.out HE.out⟩, hBl.out.trans (below_le hBl.out.size Hbw2.out)⟩
                          | exact ⟨_, _, _, 2, _, rfl, .inr ⟨by decide, hGt.out.bad Hfk.out HE.out⟩, hBl.out.trans (below_le hBl.out.size Hbw2.out)⟩
                    · as_aux_lemma =>
                        have r2 : decide (8 < w8 x) = false := decide_eq_false h2
                        obtain ⟨cnt, hcnt⟩ : ∃ cnt : Nat, w8 x = cnt := ⟨(w8 x).toNat, by omega⟩
                        have HC8 := Lib.hid (show cnt ≤ 8 by omega)
                        have HT0 := Lib.hid (TsR.start (sz := sz) (lo := 1) (hi := 8) (most := 60) (l := l) (p := pj) (cnt := cnt) (p1 := pj + 1) (b1 := 0) (.inl ⟨_, by rw [HN.out, if_pos (by omega), hcnt], rfl, rfl, rfl, by omega, by omega⟩))
                        have HKv0 := Lib.hid HKv'.out
                        have HKf0 := Lib.hid HKf.out
                        have e1 := He1.out
                        have e2 := He2.out
                        have Hcnt := Lib.hid hcnt
                        clear hw8 h1 h2 hcnt
                        obtain ⟨W0, hW0⟩ : ∃ W0, W0 = wr := ⟨_, rfl⟩
                        subst hW0
                        go_wp2_with fail
                        go_loopw [13, 14, 17] (fun nx er i wr => ∃ (j : Nat) (L : List ByteArray) (A5 : Option Addr) (c5 pj2 : Nat) (bj : Int), j ≤ cnt ∧ nx = .int .i64 pj2 ∧ er = .int .i64 bj ∧ i = .int .i64 j ∧ Hid (Bk wr W0.heap.size 98 #[.int .i64 3, .int .i64 sz, .int .i64 1, .int .i64 8, .int .i64 60]) ∧ Hid (Bk wr (W0.heap.size + 1) 101 #[.int .i64 0, .string ⟨#[]⟩, .slice A5 j c5]) ∧ Hid (OwnT wr (W0.heap.size + 2) A5 j c5 L) ∧ Hid (Below W0.heap.size W0 wr) ∧ Hid (W0.heap.size + 2 ≤ wr.heap.size) ∧ Hid (pj2 ≤ nb) ∧ Hid (TsR ⟨3, sz, 1, 8, 60⟩ l pj cnt j L pj2 bj)) (fun _ _ i _ => cnt - (intOf i).toNat)
                        case atStart => exact ⟨0, [], none, 0, pj + 1, 0, Nat.zero_le _, (by first | (rw [e2]; done) | (congr 1; done) | (congr 1; omega)), rfl, rfl, HKf0.out, HKv0.out, World.ownsRow_nil _ _ _ _, Hbw2.out, Nat.le_of_eq Hsz.out.symm, Hpj1.out, HT0.out⟩
                        case round =>
                          obtain ⟨j, L, A5, c5, pj2, bj, hj, rfl, rfl, rfl, hKf, hKv, hOw, hBy, hSy, hp2, hTs⟩ := hrel
                          clear e1 e2 hpc r1 r2 q1
                          have Hj := Lib.hid hj
                          have HIn := Lib.hid (hBl.out.trans (below_le hBl.out.size hBy.out))
                          by_cases hb0 : bj = 0
                          · as_aux_lemma =>
                              subst hb0
                              by_cases hjl : j < cnt
                              · as_aux_lemma =>
                                  have hji : decide ((j : Int) < w8 x) = true := decide_eq_true (by have := Hcnt.out; omega)
                                  have HT := Lib.hid (refOne_any (some ad) nb cb l pj2 0 60 wr (HBs.out.ext HIn.out) hp2.out HPN.out.2)
                                  have f4' := hKf.out.cell 4
                                  have v2 := hKv.out.cell 2
                                  have Hjl := Lib.hid hjl
                                  have He9 := Lib.hid (show wrap64 ((j : Int) + 1) = ((j + 1 : Nat) : Int) from wadd (b := 1) rfl (by have := HC8.out; omega))
                                  clear hjl hj
                                  go_wp2_with fail
                                  with_reducible refine HT.out.mono ?_
                                  rintro er w4 ⟨s, p5, b5, rfl, rfl, hp5, hT5⟩
                                  have HT5 := Lib.hid hT5
                                  have Hp5 := Lib.hid hp5
                                  clear hT5 hp5 HT
                                  go_wp2_with (first | (at_builtin; refine wpList_append_gen rfl (.tmp 130) (.tmp 132) 22 rfl 9 is _ 1 16 Tryz.underlying22 HI1.out HZ1.out HS1.out HY1.out rfl (by omega) (W0.heap.size + 2) (wr.alloc (.cells #[.string s] 9)) _ j (L.map Value.string) rfl (World.ownsRow.alloc hOw.out _) ⟨wr.heap.size, 0, none⟩ 1 1 [.string s] rfl rfl (cells_newm wr _ (0, 0) _ _ rfl _ rfl) (one_all rfl) (by unfold maxLen; have := Hj.out; have := HC8.out; omega) (by have := Hj.out; have := HC8.out; omega) (Below.refl _ _) (by have := hSy.out; simp; omega) ?_; intro A6 c6 w6 ho6 hg6 hob6 hb6 hs6; have k6 := Lib.hid ((hKv.out.alloc (.cells #[.string s] 9)).below hb6 (by omega)); have g2 := k6.out.cell 2; have gf := k6.out.thaw 2) | fail)
                                  have q7 := Lib.hid ((hKf.out.alloc (.cells #[.string s] 9)).below hb6 (by omega))
                                  have q8 : Below W0.heap.size W0 w6 := (hBy.out.trans (below_le (by have := hSy.out; omega) (below_new wr (.cells #[.string s] 9)))).trans (below_le (by omega) hb6)
                                  have j1 : OwnT w6 (W0.heap.size + 2) A6 (j + 1) c6 (L ++ [s]) := by
                                    unfold OwnT
                                    rw [List.map_append]
                                    exact ho6.out
                                  have j2 : OwnT (w6.setCell ⟨W0.heap.size + 1, 2, none⟩ (.slice A6 (j + 1) c6)) (W0.heap.size + 2) A6 (j + 1) c6 (L ++ [s]) := World.ownsRow.kept j1 (grown_set w6 ⟨W0.heap.size + 1, 2, none⟩ (.slice A6 (j + 1) c6)) (.inr (own_not j1 (show W0.heap.size + 1 < W0.heap.size + 2 by omega)))
                                  go_wp2_with fail
                                  go_roundw
                                  case rel => as_aux_lemma => exact ⟨j + 1, L ++ [s], A6, c6, p5, b5, (by have := Hjl.out; omega), rfl, rfl, (by rw [He9.out]), q7.out.far (p := ⟨W0.heap.size + 1, 2, none⟩) (show W0.heap.size ≠ W0.heap.size + 1 by omega) _, k6.out.put 2 (.slice A6 (j + 1) c6), j2, below_grown q8 q8.size (grown_set w6 ⟨W0.heap.size + 1, 2, none⟩ _) (by show _ ≤ W0.heap.size + 1; omega), (by
                                    show _ ≤ (w6.setCell _ _).heap.size
                                    simpa [World.setCell] using hs6), Hp5.out, hTs.out.next Hjl.out (.inl ⟨rfl, HT5.out⟩)⟩
                                  case measure =>
                                    have h7 := Hjl.out
                                    simp only [intOf_i64, He9.out, Int.toNat_natCast]
                                    omega
                              · as_aux_lemma =>
                                  have hji : decide ((j : Int) < w8 x) = false := decide_eq_false (by have := Hcnt.out; omega)
                                  obtain rfl : j = cnt := by omega
                                  clear hjl hj
                                  go_wp2_with fail
                                  go_meet
                                  case rel => exact ⟨⟨⟨0, nul, L⟩, A5, j, c5⟩, pj2, 0, rfl, rfl, hKv.out, hBy.out, hSy.out, OwnT.reads hOw.out, fun ad e => by
                                    have e : A5 = some ad := e
                                    subst e
                                    exact World.ownsRow.lt hOw.out ad.block (by simp [Value.ownBlock]), hp2.out, hTs.out.done⟩
                          · as_aux_lemma =>
                              have hbn : (bj == 0) = false := by simp [hb0]
                              have hbn' : decide (bj = 0) = false := decide_eq_false hb0
                              have Hb0 := Lib.hid hb0
                              have HV : Hid (ValueR ⟨3, sz, 1, 8, 60⟩ l pj ⟨0, nul, L⟩ pj2 bj) := by
                                rcases hTs.out with ⟨h0, _⟩ | ⟨h0, h1⟩
                                · exact absurd h0 hb0
                                · exact .inr ⟨h0, h1⟩
                              have HX : Hid (∀ ad, A5 = some ad → W0.heap.size + 2 ≤ ad.block ∧ ad.block < wr.heap.size) := fun ad e => by
                                  subst e
                                  exact World.ownsRow.lt hOw.out ad.block (by simp [Value.ownBlock])
                              clear hb0
                              by_cases hjl : j < cnt
                              · as_aux_lemma =>
                                  have hji : decide ((j : Int) < w8 x) = true := decide_eq_true (by have := Hcnt.out; omega)
                                  clear hjl hj
                                  go_wp2_with fail
                                  go_meet
                                  case rel => exact ⟨⟨⟨0, nul, L⟩, A5, j, c5⟩, pj2, bj, rfl, rfl, hKv.out, hBy.out, hSy.out, OwnT.reads hOw.out, HX.out, hp2.out, HV.out⟩
                              · as_aux_lemma =>
                                  have hji : decide ((j : Int) < w8 x) = false := decide_eq_false (by have := Hcnt.out; omega)
                                  clear hjl hj
                                  go_wp2_with fail
                                  go_meet
                                  case rel => exact ⟨⟨⟨0, nul, L⟩, A5, j, c5⟩, pj2, bj, rfl, rfl, hKv.out, hBy.out, hSy.out, OwnT.reads hOw.out, HX.out, hp2.out, HV.out⟩
      case rest =>
        as_aux_lemma =>
          obtain ⟨m, p2, b2, rfl, rfl, hkv, hbx, hsx, hok, hat, hp2, hvr⟩ := hcut
          have bMn := below_new wc (.cells #[.int .i64 m.v.n, .string m.v.s, .slice m.A m.n m.c] 101)
          have HbMn := Lib.hid bMn
          have hB2 : Below w.heap.size w wc := hBl.out.trans (below_le hBl.out.size hbx)
          have hOwn2 : wc.ownsRow w.heap.size 101 3 (.slice A3 k c3) k (ms.flatMap MVal.cells) := World.ownsRow.kept hOwn.out (grown_of_below hbx) (by cases A3 with | none => exact .inl rfl | some a => exact .inr (fun e => by cases e))
          have hSep2 : ∀ x ∈ ms, SepB wc w.heap.size (Value.slice A3 k c3).ownBlock x := fun x hx => (hSep.out x hx).ext hbx
          have hob : ∀ j, (Value.slice A3 k c3).ownBlock = some j → j < wr.heap.size := fun j hj => (World.ownsRow.lt hOwn.out j hj).2
          have hSm : SepB wc w.heap.size (Value.slice A3 k c3).ownBlock m := ⟨hok, fun ad e => by
            obtain ⟨a1, a2⟩ := hat ad e
            have a3 := hBl.out.size
            refine ⟨by omega, a2, fun e2 => ?_⟩
            have := hob _ e2
            omega⟩
          have HB2 := Lib.hid hB2
          have HOwn2 := Lib.hid hOwn2
          have HSep2 := Lib.hid hSep2
          have HSm := Lib.hid hSm
          have Hv2 := Lib.hid hvr
          have hld3 := ldV_bk (m := m) hkv
          have Hp2 := Lib.hid hp2
          clear bMn hB2 hOwn2 hSep2 hSm hob hok hat hvr hbx hsx hkv
          rcases Hv2.out with ⟨rfl, hv3⟩ | ⟨hb3, hv3⟩
          · have Hv3 := Lib.hid hv3
            clear hv3
            go_wp2_with (first | (at_builtin; refine wpList_append_gen rfl (.tmp 139) (.tmp 141) 66 rfl 101 ii _ 3 48 Tryz.underlying66 HI.out HZ.out HS.out HY.out rfl (by omega) w.heap.size (wc.alloc (.cells #[.int .i64 m.v.n, .string m.v.s, .slice m.A m.n m.c] 101)) _ k (ms.flatMap MVal.cells) rfl (World.ownsRow.alloc HOwn2.out _) ⟨wc.heap.size, 0, none⟩ 1 1 m.cells rfl rfl (cells_newm _ _ (0, 0) _ _ rfl _ rfl) (one_v m) (by unfold maxLen; omega) (by omega) (Below.refl _ _) (by have := HB2.out.size; simp; omega) ?_; intro A5 c5 w5 ho5 hg5 hob5 hb5 hs5) | fail)
            have q2 : Below w.heap.size w w5 := (HB2.out.trans (below_le HB2.out.size HbMn.out)).trans (below_le (Nat.le_refl _) hb5)
            have q3 : ∀ x, SepB wc w.heap.size (Value.slice A3 k c3).ownBlock x → SepB w5 w.heap.size (Value.slice A5 (k + 1) c5).ownBlock x := fun x hx =>
              ((hx.ext HbMn.out).grown hg5.out).own (fun ad e => ((hx.ext HbMn.out).at_ ad e).2.1) hob5.out
            have q4 : ∀ x ∈ ms ++ [m], SepB w5 w.heap.size (Value.slice A5 (k + 1) c5).ownBlock x := fun x hx => by
              rcases List.mem_append.1 hx with hx | hx
              · exact q3 x (HSep2.out x hx)
              · rw [List.mem_singleton] at hx
                subst hx
                exact q3 _ HSm.out
            have q5 : w5.ownsRow w.heap.size 101 3 (.slice A5 (k + 1) c5) (k + 1) ((ms ++ [m]).flatMap MVal.cells) := by
              rw [List.flatMap_append, show [m].flatMap MVal.cells = m.cells from by simp]
              exact ho5.out
            have q6 : GtR fs l (k + 1) (vsOf (ms ++ [m])) p2 := by
              unfold vsOf
              rw [List.map_append]
              exact hGt.out.next Hfk.out Hv3.out
            go_wp2_with fail
            go_roundw
            case rel => exact ⟨k + 1, ms ++ [m], A5, c5, p2, by omega, by go_num, rfl, rfl, q5, q4, q2, Hp2.out, q6⟩
            case measure => simp [intOf]; omega
          · have hb4 : (b2 != 0) = true := by rw [bne_iff_ne]; exact hb3
            have Hv3 := Lib.hid hv3
            have Hb3 := Lib.hid hb3
            clear hv3 hb3
            go_wp2_with fail
            go_ret3
            exact ⟨_, _, _, b2, _, rfl, .inr ⟨Hb3.out, hGt.out.bad Hfk.out Hv3.out⟩, HB2.out⟩
    · obtain rfl : k = n := by omega
      have hlb := HBs.out.len
      have hdr : fs.drop k = [] := List.drop_of_length_le (by have := HL.out; omega)
      have hgt := hGt.out
      unfold GtR at hgt
      rw [hdr] at hgt
      have Hgt := Lib.hid hgt
      clear hgt hdr
      by_cases hp : pj < nb
      · have hp' : (pj : Int) < nb := by omega
        obtain ⟨x, r, hx⟩ : ∃ x r, l.drop pj = x :: r := by
          cases hd : l.drop pj with
          | nil => have := congrArg List.length hd; rw [List.length_drop] at this; simp at this; omega
          | cons x r => exact ⟨x, r, rfl⟩
        have Hx := Lib.hid hx
        clear hx
        go_wp2_with fail
        go_ret3
        refine ⟨_, _, _, 4, _, rfl, .inr ⟨by decide, ?_⟩, hBl.out⟩
        rw [Hgt.out, Hx.out]
        rfl
      · have hp' : ¬ ((pj : Int) < nb) := by omega
        have hx : Hid (l.drop pj = []) := List.drop_of_length_le (by omega)
        go_wp2_with fail
        go_ret3
        have hfin : RGetR fs l w.heap.size wr A3 k c3 0 := .inl ⟨rfl, ms, ⟨RdK.of_own MVal.cells m3 (by omega) ms hOwn.out, fun m hm => (hSep.out m hm).ok⟩, (by
          rw [Hgt.out, hx.out]
          show Except.ok (_ ++ []) = _
          rw [List.append_nil]), fun m hm ad e => ((hSep.out m hm).at_ ad e).1⟩
        first
          | exact ⟨_, _, _, 0, _, rfl, hfin, hBl.out⟩
          | exact ⟨_, _, _, 0, ⟨_, rfl⟩, hfin, hBl.out⟩
          | exact ⟨_, _, _, 0, ⟨0, rfl⟩, hfin, hBl.out⟩
          | exact ⟨_, _, _, _, rfl, hfin, hBl.out⟩
          | exact ⟨_, _, _, rfl, hfin, hBl.out⟩
end Go.Proofs.YtpfdbbcfcimmfaaGreatDoor

/-
  staveref14: RightBatch, Grammar, PutBatch, GetBatch.
-/
namespace Go.Proofs.YtpfdbbcfcimmfaaGreatDoor
open Go.RowKit
attribute [local go_sem ↓] ldB_eq

theorem rightB_iff (b : Bat) : rightB b = true ↔ (1 ≤ b.vals.length ∧ b.vals.length ≤ 8 ∧ 0 ≤ b.time ∧ b.time ≤ 1125899906842624 ∧ 0 ≤ b.prod ∧ b.prod ≤ 1048576 ∧ 0 ≤ b.seq ∧ b.seq ≤ 1099511627776 ∧ (b.prod = 0 → b.seq = 0) ∧ ∀ s ∈ b.vals, s.size ≤ 60) := by
  obtain ⟨t, p, s, l⟩ := b
  have e : okAll batF (batV ⟨t, p, s, l⟩) = (fitsV (nF 8 0 1125899906842624) (nV t) && (fitsV (nF 4 0 1048576) (nV p) && (fitsV (nF 8 0 1099511627776) (nV s) && (fitsV ⟨3, 0, 1, 8, 60⟩ (lV l) && true)))) := rfl
  have e1 : ∀ (sz hi x : Int), fitsV (nF sz 0 hi) (nV x) = (decide (0 ≤ x) && decide (x ≤ hi)) := by
    intro sz hi x
    show (decide (0 ≤ x) && decide (x ≤ hi) && true && true) = _
    rw [Bool.and_true, Bool.and_true]
  have e2 : fitsV ⟨3, 0, 1, 8, 60⟩ (lV l) = (decide (1 ≤ (l.length : Int)) && decide ((l.length : Int) ≤ 8) && l.all (fun s => decide ((s.size : Int) ≤ 60))) := by
    show (decide (1 ≤ (l.length : Int)) && decide ((l.length : Int) ≤ 8) && l.all (fun s => decide ((s.size : Int) ≤ 60)) && true && true) = _
    rw [Bool.and_true, Bool.and_true]
  unfold rightB
  rw [e, e1, e1, e1, e2]
  simp only [Bool.and_eq_true, Bool.or_eq_true, decide_eq_true_iff, List.all_eq_true, and_true]
  constructor
  · rintro ⟨⟨⟨h1, h2⟩, ⟨h3, h4⟩, ⟨h5, h6⟩, ⟨h7, h8⟩, h9⟩, h10⟩
    exact ⟨by omega, by omega, h1, h2, h3, h4, h5, h6, fun h => by rcases h10 with h10 | h10 <;> omega, fun s hs => by have := h9 s hs; omega⟩
  · rintro ⟨h1, h2, h3, h4, h5, h6, h7, h8, h9, h10⟩
    refine ⟨⟨⟨h3, h4⟩, ⟨h5, h6⟩, ⟨h7, h8⟩, ⟨by omega, by omega⟩, fun s hs => by have := h10 s hs; omega⟩, ?_⟩
    by_cases h : p = 0
    · exact .inr (h9 h)
    · exact .inl (by omega)
set_option maxRecDepth 100000 in
set_option maxHeartbeats 4000000 in
theorem refRB_any (b : Bat) (A : Option Addr) (n c : Nat) (w : World) (hr : RdT w A n c b.vals) :
    Calls Tryz.prog 44 #[.agg #[.int .i64 b.time, .int .i64 b.prod, .int .i64 b.seq, .slice A n c]] w fun e w' => e = .returned (.bool (rightB b)) ∧ Below w.heap.size w w' := by
  have HL := Lib.hid hr.len
  have hcap := Rd.cap hr
  have hbig := Rd.big hr
  have HB := Lib.hid (below_new w (.cells #[.int .i64 b.time, .int .i64 b.prod, .int .i64 b.seq, .slice A n c] 24))
  have HR := Lib.hid (RdT.ext hr HB.out)
  clear hr
  by_cases h0 : (n : Int) < 1
  · have q0 : decide ((n : Int) < 1) = true := decide_eq_true h0
    have q00 : decide (n < 1) = true := decide_eq_true (by omega)
    have HF : Hid (rightB b = false) := Bool.eq_false_iff.2 (fun h => by have := (rightB_iff b).1 h; have := HL.out; omega)
    clear h0
    go_enter Tryz.func44, Tryz.ntmps44
    go_wp2_with fail
    go_ret
    exact ⟨ret_bool HF.out.symm, HB.out⟩
  · have q0 : decide ((n : Int) < 1) = false := decide_eq_false h0
    have q00 : decide (n < 1) = false := decide_eq_false (by omega)
    have H0 := Lib.hid h0
    clear h0
    by_cases h1 : (8 : Int) < (n : Int)
    · have q1 : decide ((8 : Int) < (n : Int)) = true := decide_eq_true h1
      have q10 : decide (8 < n) = true := decide_eq_true (by omega)
      have HF : Hid (rightB b = false) := Bool.eq_false_iff.2 (fun h => by have := (rightB_iff b).1 h; have := HL.out; omega)
      clear h1
      go_enter Tryz.func44, Tryz.ntmps44
      go_wp2_with fail
      go_ret
      exact ⟨ret_bool HF.out.symm, HB.out⟩
    · have q1 : decide ((8 : Int) < (n : Int)) = false := decide_eq_false h1
      have q10 : decide (8 < n) = false := decide_eq_false (by omega)
      have H1 := Lib.hid h1
      clear h1
      by_cases h2 : b.time < 0
      · have q2 : decide (b.time < 0) = true := decide_eq_true h2
        have HF : Hid (rightB b = false) := Bool.eq_false_iff.2 (fun h => by have := (rightB_iff b).1 h; have := HL.out; omega)
        clear h2
        go_enter Tryz.func44, Tryz.ntmps44
        go_wp2_with fail
        go_ret
        exact ⟨ret_bool HF.out.symm, HB.out⟩
      · have q2 : decide (b.time < 0) = false := decide_eq_false h2
        have H2 := Lib.hid h2
        clear h2
        by_cases h3 : 1125899906842624 < b.time
        · have q3 : decide (1125899906842624 < b.time) = true := decide_eq_true h3
          have HF : Hid (rightB b = false) := Bool.eq_false_iff.2 (fun h => by have := (rightB_iff b).1 h; have := HL.out; omega)
          clear h3
          go_enter Tryz.func44, Tryz.ntmps44
          go_wp2_with fail
          go_ret
          exact ⟨ret_bool HF.out.symm, HB.out⟩
        · have q3 : decide (1125899906842624 < b.time) = false := decide_eq_false h3
          have H3 := Lib.hid h3
          clear h3
          by_cases h4 : b.prod < 0
          · have q4 : decide (b.prod < 0) = true := decide_eq_true h4
            have HF : Hid (rightB b = false) := Bool.eq_false_iff.2 (fun h => by have := (rightB_iff b).1 h; have := HL.out; omega)
            clear h4
            go_enter Tryz.func44, Tryz.ntmps44
            go_wp2_with fail
            go_ret
            exact ⟨ret_bool HF.out.symm, HB.out⟩
          · have q4 : decide (b.prod < 0) = false := decide_eq_false h4
            have H4 := Lib.hid h4
            clear h4
            by_cases h5 : 1048576 < b.prod
            · have q5 : decide (1048576 < b.prod) = true := decide_eq_true h5
              have HF : Hid (rightB b = false) := Bool.eq_false_iff.2 (fun h => by have := (rightB_iff b).1 h; have := HL.out; omega)
              clear h5
              go_enter Tryz.func44, Tryz.ntmps44
              go_wp2_with fail
              go_ret
              exact ⟨ret_bool HF.out.symm, HB.out⟩
            · have q5 : decide (1048576 < b.prod) = false := decide_eq_false h5
              have H5 := Lib.hid h5
              clear h5
              by_cases h6 : b.seq < 0
              · have q6 : decide (b.seq < 0) = true := decide_eq_true h6
                have HF : Hid (rightB b = false) := Bool.eq_false_iff.2 (fun h => by have := (rightB_iff b).1 h; have := HL.out; omega)
                clear h6
                go_enter Tryz.func44, Tryz.ntmps44
                go_wp2_with fail
                go_ret
                exact ⟨ret_bool HF.out.symm, HB.out⟩
              · have q6 : decide (b.seq < 0) = false := decide_eq_false h6
                have H6 := Lib.hid h6
                clear h6
                by_cases h7 : 1099511627776 < b.seq
                · have q7 : decide (1099511627776 < b.seq) = true := decide_eq_true h7
                  have HF : Hid (rightB b = false) := Bool.eq_false_iff.2 (fun h => by have := (rightB_iff b).1 h; have := HL.out; omega)
                  clear h7
                  go_enter Tryz.func44, Tryz.ntmps44
                  go_wp2_with fail
                  go_ret
                  exact ⟨ret_bool HF.out.symm, HB.out⟩
                · have q7 : decide (1099511627776 < b.seq) = false := decide_eq_false h7
                  have H7 := Lib.hid h7
                  clear h7
                  by_cases h8 : b.prod = 0
                  · have q8 : (b.prod == 0) = true := by simp [h8]
                    by_cases h9 : b.seq = 0
                    · have q9 : (b.seq != 0) = false := by simp [h9]
                      have Hz : Hid (b.prod = 0 → b.seq = 0) := fun _ => h9
                      clear h8 h9
                      go_enter Tryz.func44, Tryz.ntmps44
                      go_wp2_with fail
                      go_loopw [58] (fun i wr => ∃ k : Nat, k ≤ n ∧ i = .int .i64 k ∧ Hid (∀ s ∈ b.vals.take k, s.size ≤ 60) ∧ wr = w.alloc (.cells #[.int .i64 b.time, .int .i64 b.prod, .int .i64 b.seq, .slice A n c] 24)) (fun i _ => n - (intOf i).toNat)
                      case atStart => exact ⟨0, Nat.zero_le _, rfl, (fun s hs => by simp at hs), rfl⟩
                      case round =>
                        obtain ⟨k, hk, rfl, hall, rfl⟩ := hrel
                        by_cases hlt : k < n
                        · have hi : (k : Int) < n := by omega
                          obtain ⟨sk, hs⟩ : ∃ sk, b.vals[k]? = some sk := ⟨b.vals[k]'(by have := HL.out; omega), List.getElem?_eq_getElem _⟩
                          obtain ⟨ad, rfl, _, hc⟩ := Rd.cell HR.out k (.string sk) (by rw [List.getElem?_map, hs]; rfl)
                          have Hs := Lib.hid hs
                          clear hs
                          by_cases hm : (60 : Int) < (sk.size : Int)
                          · have qm : decide ((60 : Int) < (sk.size : Int)) = true := decide_eq_true hm
                            have qm' : decide (60 < sk.size) = true := decide_eq_true (by omega)
                            have HF : Hid (rightB b = false) := Bool.eq_false_iff.2 (fun h => by have := ((rightB_iff b).1 h).2.2.2.2.2.2.2.2.2 sk (List.mem_of_getElem? Hs.out); omega)
                            clear hm
                            go_wp2_with fail
                            go_ret
                            exact ⟨ret_bool HF.out.symm, HB.out⟩
                          · have qm : decide ((60 : Int) < (sk.size : Int)) = false := decide_eq_false hm
                            have qm' : decide (60 < sk.size) = false := decide_eq_false (by omega)
                            have Hm := Lib.hid hm
                            clear hm
                            go_wp2_with fail
                            go_roundw
                            case rel => exact ⟨k + 1, by omega, by go_num, (by
                              intro s hs
                              rw [List.take_add_one, Hs.out, List.mem_append] at hs
                              rcases hs with hs | hs
                              · exact hall.out s hs
                              · have e : s = sk := by simpa using hs
                                have := Hm.out
                                rw [e]
                                omega), trivial⟩
                            case measure => simp [intOf]; omega
                        · obtain rfl : k = n := by omega
                          have HT : Hid (rightB b = true) := by
                            have hall' := hall.out
                            rw [List.take_of_length_le (by have := HL.out; omega)] at hall'
                            refine (rightB_iff b).2 ⟨by have := H0.out; have := HL.out; omega, by have := H1.out; have := HL.out; omega, (by have := H2.out; omega), (by have := H3.out; omega), (by have := H4.out; omega), (by have := H5.out; omega), (by have := H6.out; omega), (by have := H7.out; omega), Hz.out, hall'⟩
                          go_wp2_with fail
                          go_ret
                          exact ⟨ret_bool HT.out.symm, HB.out⟩
                    · have q9 : (b.seq != 0) = true := by simp [h9]
                      have HF : Hid (rightB b = false) := Bool.eq_false_iff.2 (fun h => h9 (((rightB_iff b).1 h).2.2.2.2.2.2.2.2.1 h8))
                      clear h8 h9
                      go_enter Tryz.func44, Tryz.ntmps44
                      go_wp2_with fail
                      go_ret
                      exact ⟨ret_bool HF.out.symm, HB.out⟩
                  · have q8 : (b.prod == 0) = false := by simp [h8]
                    have Hz : Hid (b.prod = 0 → b.seq = 0) := fun h => absurd h h8
                    clear h8
                    go_enter Tryz.func44, Tryz.ntmps44
                    go_wp2_with fail
                    go_loopw [58] (fun i wr => ∃ k : Nat, k ≤ n ∧ i = .int .i64 k ∧ Hid (∀ s ∈ b.vals.take k, s.size ≤ 60) ∧ wr = w.alloc (.cells #[.int .i64 b.time, .int .i64 b.prod, .int .i64 b.seq, .slice A n c] 24)) (fun i _ => n - (intOf i).toNat)
                    case atStart => exact ⟨0, Nat.zero_le _, rfl, (fun s hs => by simp at hs), rfl⟩
                    case round =>
                      obtain ⟨k, hk, rfl, hall, rfl⟩ := hrel
                      by_cases hlt : k < n
                      · have hi : (k : Int) < n := by omega
                        obtain ⟨sk, hs⟩ : ∃ sk, b.vals[k]? = some sk := ⟨b.vals[k]'(by have := HL.out; omega), List.getElem?_eq_getElem _⟩
                        obtain ⟨ad, rfl, _, hc⟩ := Rd.cell HR.out k (.string sk) (by rw [List.getElem?_map, hs]; rfl)
                        have Hs := Lib.hid hs
                        clear hs
                        by_cases hm : (60 : Int) < (sk.size : Int)
                        · have qm : decide ((60 : Int) < (sk.size : Int)) = true := decide_eq_true hm
                          have qm' : decide (60 < sk.size) = true := decide_eq_true (by omega)
                          have HF : Hid (rightB b = false) := Bool.eq_false_iff.2 (fun h => by have := ((rightB_iff b).1 h).2.2.2.2.2.2.2.2.2 sk (List.mem_of_getElem? Hs.out); omega)
                          clear hm
                          go_wp2_with fail
                          go_ret
                          exact ⟨ret_bool HF.out.symm, HB.out⟩
                        · have qm : decide ((60 : Int) < (sk.size : Int)) = false := decide_eq_false hm
                          have qm' : decide (60 < sk.size) = false := decide_eq_false (by omega)
                          have Hm := Lib.hid hm
                          clear hm
                          go_wp2_with fail
                          go_roundw
                          case rel => exact ⟨k + 1, by omega, by go_num, (by
                            intro s hs
                            rw [List.take_add_one, Hs.out, List.mem_append] at hs
                            rcases hs with hs | hs
                            · exact hall.out s hs
                            · have e : s = sk := by simpa using hs
                              have := Hm.out
                              rw [e]
                              omega), trivial⟩
                          case measure => simp [intOf]; omega
                      · obtain rfl : k = n := by omega
                        have HT : Hid (rightB b = true) := by
                          have hall' := hall.out
                          rw [List.take_of_length_le (by have := HL.out; omega)] at hall'
                          refine (rightB_iff b).2 ⟨by have := H0.out; have := HL.out; omega, by have := H1.out; have := HL.out; omega, (by have := H2.out; omega), (by have := H3.out; omega), (by have := H4.out; omega), (by have := H5.out; omega), (by have := H6.out; omega), (by have := H7.out; omega), Hz.out, hall'⟩
                        go_wp2_with fail
                        go_ret
                        exact ⟨ret_bool HT.out.symm, HB.out⟩
set_option maxRecDepth 100000 in
set_option maxHeartbeats 1000000 in
theorem refGram_any (w w0 : World) (B : Nat) (hb : Below B w0 w) (hB : B ≤ w.heap.size) :
    Calls Tryz.prog 114 #[] w fun e w' => ∃ g, e = .returned (.slice (some ⟨g, 0, none⟩) 4 4) ∧ RdF w' (some ⟨g, 0, none⟩) 4 4 batF ∧ Below B w0 w' ∧ B ≤ w'.heap.size ∧ Below w.heap.size w w' := by
  go_enter Tryz.func114, Tryz.ntmps114
  go_wp2
  go_ret
  exact ⟨_, rfl, RdK.of_bk (Bk.made w _ _) Fld.cells f5 batF rfl 4 4 rfl (by omega) (by omega), hb.alloc hB _, by simp; omega, below_new _ _⟩
set_option maxRecDepth 100000 in
set_option maxHeartbeats 4000000 in
theorem refPB_any (b : Bat) (A : Option Addr) (n c : Nat) (w : World) (hr : RdT w A n c b.vals) :
    Calls Tryz.prog 81 #[.agg #[.int .i64 b.time, .int .i64 b.prod, .int .i64 b.seq, .slice A n c]] w fun e w' => ∃ A' M c', e = .returned (.slice A' M c') ∧ RdB w' A' M c' (putB b) ∧ Below w.heap.size w w' := by
  have hbn := below_new w (.cells #[.int .i64 b.time, .int .i64 b.prod, .int .i64 b.seq, .slice A n c] 24)
  have hR := refRB_any b A n c _ (hr.ext hbn)
  have hbk := Bk.made w 24 #[.int .i64 b.time, .int .i64 b.prod, .int .i64 b.seq, .slice A n c]
  have hld := ldB_bk hbk
  have HBK := Lib.hid hbk
  have HB1 := Lib.hid hbn
  have HRT := Lib.hid (hr.ext hbn)
  clear hbk hbn hr
  unfold putB
  cases hok : rightB b
  · rw [hok] at hR
    have HR := Lib.hid hR
    clear hR
    go_enter Tryz.func81, Tryz.ntmps81
    go_wp2_with fail
    with_reducible refine HR.out.mono ?_
    rintro e w1 ⟨rfl, hb1⟩
    go_wp2_with fail
    go_ret
    exact ⟨none, 0, 0, rfl, Rd.nil _ _, HB1.out.trans (below_le HB1.out.size hb1)⟩
  · rw [hok] at hR
    have HR := Lib.hid hR
    have hall : okAll batF (batV b) = true := by unfold rightB at hok; rw [Bool.and_eq_true] at hok; exact hok.1
    have Hall := Lib.hid hall
    clear hR hall
    go_enter Tryz.func81, Tryz.ntmps81
    go_wp2_with fail
    with_reducible refine HR.out.mono ?_
    rintro e w1 ⟨rfl, hb1⟩
    have hbk := HBK.out.ext hb1
    have hr1 := HRT.out.ext hb1
    have HB2 := Lib.hid (HB1.out.trans (below_le HB1.out.size hb1))
    have FS : Hid (∀ w', Below w1.heap.size w1 w' → (Below w1.heap.size w1 w' ∧ w'.cell? ⟨w.heap.size, 0, none⟩ = some (.int .i64 b.time) ∧ w'.cell? ⟨w.heap.size, 1, none⟩ = some (.int .i64 b.prod) ∧ w'.cell? ⟨w.heap.size, 2, none⟩ = some (.int .i64 b.seq) ∧ w'.cell? ⟨w.heap.size, 3, none⟩ = some (.slice A n c))) := fun w' hb =>
      ⟨hb, ((hbk.ext hb).cell 0).trans rfl, ((hbk.ext hb).cell 1).trans rfl, ((hbk.ext hb).cell 2).trans rfl, ((hbk.ext hb).cell 3).trans rfl⟩
    have HR1 := Lib.hid hr1
    have r0 := below_drew1 (Below.refl w1.heap.size w1)
    have r1 := below_drew1 ((Below.refl w1.heap.size w1).alloc (Nat.le_refl _) (.cells #[.int .i64 b.time, .string ⟨#[]⟩, .slice none 0 0, .int .i64 b.prod, .string ⟨#[]⟩, .slice none 0 0, .int .i64 b.seq, .string ⟨#[]⟩, .slice none 0 0, .int .i64 0, .string ⟨#[]⟩, .slice A n c] 101))
    clear hr1 hbk hb1 hld HR HRT HBK
    go_wp2_with fail
    go_region_held3 (fun w' => Below w1.heap.size w1 w' ∧ w'.cell? ⟨w.heap.size, 0, none⟩ = some (.int .i64 b.time) ∧ w'.cell? ⟨w.heap.size, 1, none⟩ = some (.int .i64 b.prod) ∧ w'.cell? ⟨w.heap.size, 2, none⟩ = some (.int .i64 b.seq) ∧ w'.cell? ⟨w.heap.size, 3, none⟩ = some (.slice A n c)) (first | exact FS.out _ r0 | exact FS.out _ hb4 | exact FS.out _ (hb3.alloc hs3 _) | exact FS.out _ hb3 | exact FS.out _ r1) (first | (go_at_call 114; (with_reducible refine (refGram_any w1.drew w1 w1.heap.size r0 r0.size).mono ?_); rintro e w3 ⟨g3, rfl, hf3, hb3, hs3, hx3⟩; have HF4 := Lib.hid (hf3.ext (below_new w3 (.cells #[.int .i64 b.time, .string ⟨#[]⟩, .slice none 0 0, .int .i64 b.prod, .string ⟨#[]⟩, .slice none 0 0, .int .i64 b.seq, .string ⟨#[]⟩, .slice none 0 0, .int .i64 0, .string ⟨#[]⟩, .slice A n c] 101))); have HV4 := Lib.hid (rdV_batM (Bk.made w3 101 _) (HR1.out.ext (hb3.alloc hs3 (.cells #[.int .i64 b.time, .string ⟨#[]⟩, .slice none 0 0, .int .i64 b.prod, .string ⟨#[]⟩, .slice none 0 0, .int .i64 b.seq, .string ⟨#[]⟩, .slice none 0 0, .int .i64 0, .string ⟨#[]⟩, .slice A n c] 101)))); have hb4' := hb3.alloc hs3 (.cells #[.int .i64 b.time, .string ⟨#[]⟩, .slice none 0 0, .int .i64 b.prod, .string ⟨#[]⟩, .slice none 0 0, .int .i64 b.seq, .string ⟨#[]⟩, .slice none 0 0, .int .i64 0, .string ⟨#[]⟩, .slice A n c] 101)) | (go_at_call 114; (with_reducible refine (refGram_any (w1.alloc (.cells #[.int .i64 b.time, .string ⟨#[]⟩, .slice none 0 0, .int .i64 b.prod, .string ⟨#[]⟩, .slice none 0 0, .int .i64 b.seq, .string ⟨#[]⟩, .slice none 0 0, .int .i64 0, .string ⟨#[]⟩, .slice A n c] 101)).drew w1 w1.heap.size r1 r1.size).mono ?_); rintro e w3 ⟨g3, rfl, hf3, hb3, hs3, hx3⟩; have HF4 := Lib.hid hf3; have HV4 := Lib.hid (rdV_batM (b := b) ((Bk.drawn1 (Bk.made w1 101 _)).ext hx3) (HR1.out.ext hb3)); have hb4' := hb3) | (go_at_call 45; (with_reducible refine (refPut_any _ 4 4 batF _ 4 4 (batM b A n c) _ bat_some HF4.out HV4.out (by omega)).mono ?_); rintro e w4 ⟨A4, M4, c4, k4, i4, rfl, hp4, hq4⟩; have hb4 := hb4'.trans (below_le hb4'.size hq4)) | fail)
    all_goals
      rcases hp4 with ⟨_, rfl, ho⟩ | ⟨hno, _⟩
      · go_wp2_with fail
        go_ret
        exact ⟨_, _, _, rfl, ho.rd, HB2.out.trans (below_le HB2.out.size hb4)⟩
      · rw [batM_vs, Hall.out] at hno; cases hno
/-- what the document's GetBatch hands back -/
def RBatR (l : List UInt8) (B : Nat) (w' : World) (b : Bat) (A : Option Addr) (n c : Nat) (k : Int) : Prop :=
  RdT w' A n c b.vals ∧ (∀ ad, A = some ad → B ≤ ad.block) ∧ ((k = 0 ∧ getB l = .ok b) ∨ (b = noB ∧ k ≠ 0 ∧ getB l = .error k))
attribute [local go_sem ↓] stB_eq
set_option maxRecDepth 100000 in
set_option maxHeartbeats 4000000 in
theorem refGB_any (A : Option Addr) (n c : Nat) (l : List UInt8) (w : World) (hr : RdB w A n c l) (hn : n ≤ 1000000) :
    Calls Tryz.prog 82 #[.slice A n c] w fun e w' => ∃ b A' n' c' k, e = .returned (.tuple #[.agg #[.int .i64 b.time, .int .i64 b.prod, .int .i64 b.seq, .slice A' n' c'], .int .i64 k]) ∧ RBatR l w.heap.size w' b A' n' c' k ∧ Below w.heap.size w w' := by
  have hbn := below_new w (.cells #[.int .i64 0, .int .i64 0, .int .i64 0, .slice none 0 0] 24)
  have hz := Bk.made w 24 #[.int .i64 0, .int .i64 0, .int .i64 0, .slice none 0 0]
  have Hz := Lib.hid hz
  have Hbn := Lib.hid hbn
  have HRb := Lib.hid hr
  have HFd := Lib.hid (refGram_any _ w w.heap.size hbn hbn.size)
  clear hz hbn hr
  go_enter Tryz.func82, Tryz.ntmps82
  go_wp2_with fail
  with_reducible refine HFd.out.mono ?_
  rintro e w1 ⟨g1, rfl, hf1, hb1, hs1, hx1⟩
  have hz1 := Lib.hid (Hz.out.ext hx1)
  have HB1 := Lib.hid hb1
  have HG := Lib.hid (refGet_any _ 4 4 batF A n c l w1 bat_some hf1 (HRb.out.ext hb1) (by omega) hn)
  clear hf1 hb1 hx1
  go_wp2_with fail
  with_reducible refine HG.out.mono ?_
  rintro e w2 ⟨A2, n2, c2, k2, i2, rfl, hgr, hb2⟩
  have hz2 := Lib.hid (hz1.out.ext hb2)
  have HB2 := Lib.hid (HB1.out.trans (below_le hs1 hb2))
  clear hb2
  rcases hgr with ⟨rfl, ms, hv, hga, hpr⟩ | ⟨hk, hga⟩
  · obtain ⟨m0, m1, m2, m3, rfl, hmade⟩ := bat_ms hga
    have hlen := hv.rows.len
    obtain rfl : n2 = 4 := by simpa using hlen.symm
    obtain ⟨gv, rfl, hgv, e0⟩ := hv.rows.cell 0 m0.cells rfl
    obtain ⟨_, h1, _, e1⟩ := hv.rows.cell 1 m1.cells rfl
    injection h1 with h1; injection h1 with h1; subst h1
    obtain ⟨_, h1, _, e2⟩ := hv.rows.cell 2 m2.cells rfl
    injection h1 with h1; injection h1 with h1; subst h1
    obtain ⟨_, h1, _, e3⟩ := hv.rows.cell 3 m3.cells rfl
    injection h1 with h1; injection h1 with h1; subst h1
    have d0 : w2.cell? ⟨gv, 0, none⟩ = some (.int .i64 m0.v.n) := e0 0 _ rfl
    have d3 : w2.cell? ⟨gv, 3, none⟩ = some (.int .i64 m1.v.n) := e1 0 _ rfl
    have d6 : w2.cell? ⟨gv, 6, none⟩ = some (.int .i64 m2.v.n) := e2 0 _ rfl
    have d11 : w2.cell? ⟨gv, 11, none⟩ = some (.slice m3.A m3.n m3.c) := e3 2 _ rfl
    have Hok := Lib.hid (hv.vals m3 (by simp))
    have Hpr := Lib.hid (hpr m3 (by simp))
    have Hw1 := Lib.hid hz1.out.lt
    clear hpr
    have Hga := Lib.hid hga
    have Hmade := Lib.hid hmade
    have hcv := hv.rows.cap
    have hcb := hv.rows.big
    clear e0 e1 e2 e3 hv hga hlen hmade
    have FS : Hid (∀ w', Below w2.heap.size w2 w' → (Below w2.heap.size w2 w' ∧ w'.cell? ⟨gv, 0, none⟩ = some (.int .i64 m0.v.n) ∧ w'.cell? ⟨gv, 3, none⟩ = some (.int .i64 m1.v.n) ∧ w'.cell? ⟨gv, 6, none⟩ = some (.int .i64 m2.v.n) ∧ w'.cell? ⟨gv, 11, none⟩ = some (.slice m3.A m3.n m3.c))) := fun w' hb =>
      ⟨hb, (hb.cell (p := ⟨gv, 0, none⟩) hgv).trans d0, (hb.cell (p := ⟨gv, 3, none⟩) hgv).trans d3, (hb.cell (p := ⟨gv, 6, none⟩) hgv).trans d6, (hb.cell (p := ⟨gv, 11, none⟩) hgv).trans d11⟩
    have r0 := below_drew1 (Below.refl w2.heap.size w2)
    have hst := stB_row _ _ ⟨m0.v.n, m1.v.n, m2.v.n, m3.v.l⟩ m3.A m3.n m3.c _ (Bk.drawn1 (Bk.made w2 24 #[.int .i64 0, .int .i64 0, .int .i64 0, .slice none 0 0])) rfl
    have r1 := below_drew1 ((Below.refl w2.heap.size w2).alloc (Nat.le_refl _) (.cells #[.int .i64 0, .int .i64 0, .int .i64 0, .slice none 0 0] 24))
    have r2 := below_row r1 r1.size (Nat.le_refl _) #[.int .i64 m0.v.n, .int .i64 m1.v.n, .int .i64 m2.v.n, .slice m3.A m3.n m3.c]
    clear d0 d3 d6 d11
    go_wp2_with fail
    go_region_held3 (fun w' => Below w2.heap.size w2 w' ∧ w'.cell? ⟨gv, 0, none⟩ = some (.int .i64 m0.v.n) ∧ w'.cell? ⟨gv, 3, none⟩ = some (.int .i64 m1.v.n) ∧ w'.cell? ⟨gv, 6, none⟩ = some (.int .i64 m2.v.n) ∧ w'.cell? ⟨gv, 11, none⟩ = some (.slice m3.A m3.n m3.c)) (first | exact FS.out _ r0 | exact FS.out _ r1 | exact FS.out _ r2) (first | fail)
    all_goals
      have hb3 : Bk ((w2.alloc (.cells #[.int .i64 0, .int .i64 0, .int .i64 0, .slice none 0 0] 24)).drew.setRow w2.heap.size #[.int .i64 m0.v.n, .int .i64 m1.v.n, .int .i64 m2.v.n, .slice m3.A m3.n m3.c]) w2.heap.size 24 #[.int .i64 m0.v.n, .int .i64 m1.v.n, .int .i64 m2.v.n, .slice m3.A m3.n m3.c] := Bk.row (Bk.drawn1 (Bk.made w2 24 #[.int .i64 0, .int .i64 0, .int .i64 0, .slice none 0 0])) _
      clear hst r0 r1 FS
      have hB3 := r2
      have hk3 := hb3
      clear r2 hb3
      generalize (w2.alloc (.cells #[.int .i64 0, .int .i64 0, .int .i64 0, .slice none 0 0] 24)).drew.setRow w2.heap.size #[.int .i64 m0.v.n, .int .i64 m1.v.n, .int .i64 m2.v.n, .slice m3.A m3.n m3.c] = w3 at hB3 hk3 ⊢
      have hld := ldB_bk (b := ⟨m0.v.n, m1.v.n, m2.v.n, m3.v.l⟩) hk3
      have HR := Lib.hid (refRB_any ⟨m0.v.n, m1.v.n, m2.v.n, m3.v.l⟩ m3.A m3.n m3.c w3 (RdT.ext Hok.out hB3))
      have HK3 := Lib.hid hk3
      have hz3 := Lib.hid (hz2.out.ext hB3)
      have HB3 := Lib.hid (HB2.out.trans (below_le HB2.out.size hB3))
      have HO3 := Lib.hid (RdT.ext Hok.out hB3)
      clear hk3 hB3
      cases hrt : rightB ⟨m0.v.n, m1.v.n, m2.v.n, m3.v.l⟩
      · rw [hrt] at HR
        go_wp2_with fail
        with_reducible refine HR.out.mono ?_
        rintro e w4 ⟨rfl, hb4⟩
        have hz4 := hz3.out.ext hb4
        have hst4 := stB_row _ _ noB none 0 0 _ hz4 rfl
        simp only [noB] at hst4
        have Hz4 := Lib.hid hz4
        clear hld hz4
        go_wp2_with fail
        have hgb : getB l = .error 2 := by
          unfold getB
          rw [Hga.out]
          show (if rightB (madeB (vsOf _)) = true then Except.ok (madeB (vsOf _)) else Except.error 2) = _
          rw [Hmade.out, hrt]
          rfl
        exact bodyPost_ret (res_bat (u := 3) rfl _ _ w.heap.size noB none 0 0 rfl (Hz4.out.row _)) rfl ⟨noB, none, 0, 0, 2, rfl, ⟨RdT.nil _, (fun ad h => by cases h), .inr ⟨rfl, by decide, hgb⟩⟩, below_row (HB3.out.trans (below_le HB3.out.size hb4)) (Nat.le_trans HB3.out.size hb4.size) (Nat.le_refl _) _⟩
      · rw [hrt] at HR
        go_wp2_with fail
        with_reducible refine HR.out.mono ?_
        rintro e w4 ⟨rfl, hb4⟩
        have hz4 := hz3.out.ext hb4
        have hld4 := ldB_bk (b := ⟨m0.v.n, m1.v.n, m2.v.n, m3.v.l⟩) (HK3.out.ext hb4)
        have hst4 := stB_row _ _ ⟨m0.v.n, m1.v.n, m2.v.n, m3.v.l⟩ m3.A m3.n m3.c _ hz4 rfl
        have Hz4 := Lib.hid hz4
        clear hld hz4
        go_wp2_with fail
        have hgb : getB l = .ok ⟨m0.v.n, m1.v.n, m2.v.n, m3.v.l⟩ := by
          unfold getB
          rw [Hga.out]
          show (if rightB (madeB (vsOf _)) = true then Except.ok (madeB (vsOf _)) else Except.error 2) = _
          rw [Hmade.out, hrt]
          rfl
        have hr4 : RdT (w4.setRow w.heap.size #[.int .i64 m0.v.n, .int .i64 m1.v.n, .int .i64 m2.v.n, .slice m3.A m3.n m3.c]) m3.A m3.n m3.c m3.v.l := RdT.kept (RdT.ext HO3.out hb4) (grown_row _ _ _) (fun ad e e2 => by
          have h1 := Hpr.out ad e
          have h2 := Hw1.out
          have := Option.some.inj e2
          omega)
        exact bodyPost_ret (res_bat (u := 3) rfl _ _ w.heap.size ⟨m0.v.n, m1.v.n, m2.v.n, m3.v.l⟩ m3.A m3.n m3.c rfl (Hz4.out.row _)) rfl ⟨⟨m0.v.n, m1.v.n, m2.v.n, m3.v.l⟩, m3.A, m3.n, m3.c, 0, rfl, ⟨hr4, (fun ad e => by have h1 := Hpr.out ad e; have h2 := Hw1.out; omega), .inl ⟨rfl, hgb⟩⟩, below_row (HB3.out.trans (below_le HB3.out.size hb4)) (Nat.le_trans HB3.out.size hb4.size) (Nat.le_refl _) _⟩
  · have hk' : (k2 != 0) = true := by rw [bne_iff_ne]; exact hk
    have Hk := Lib.hid hk
    have hst4 := stB_row _ _ noB none 0 0 _ hz2.out rfl
    simp only [noB] at hst4
    have Hga := Lib.hid hga
    clear hk hga
    go_wp2_with fail
    exact bodyPost_ret (res_bat (u := 3) rfl _ _ w.heap.size noB none 0 0 rfl (hz2.out.row _)) rfl ⟨noB, none, 0, 0, k2, rfl, ⟨RdT.nil _, (fun ad h => by cases h), .inr ⟨rfl, Hk.out, by unfold getB; rw [Hga.out]⟩⟩, below_row HB2.out HB2.out.size (Nat.le_refl _) _⟩
end Go.Proofs.YtpfdbbcfcimmfaaGreatDoor
