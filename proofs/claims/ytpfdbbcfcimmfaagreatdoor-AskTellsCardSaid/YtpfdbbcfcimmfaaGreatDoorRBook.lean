/-
  The walks of stavebook over bytes: Same, Roomy, Intact.
-/
import Derived.Test.YtpfdbbcfcimmfaaGreatDoorWithin
namespace Go.Proofs.YtpfdbbcfcimmfaaGreatDoor
open Go.RowKit

set_option maxRecDepth 100000 in
set_option maxHeartbeats 400000 in
theorem bookSame_any (A : Option Addr) (n c : Nat) (l : List UInt8) (A' : Option Addr) (n' c' : Nat) (l' : List UInt8) (w : World) (h : RdB w A n c l) (h' : RdB w A' n' c' l') :
    Calls Tryz.prog 13 #[.slice A n c, .slice A' n' c'] w fun e w' => e = .returned (.bool (decide (l = l'))) ∧ ∃ q, w' = w.drewN q := by
  have hn : n ≤ 9223372036854775807 := Nat.le_trans h.cap h.big
  have hn' : n' ≤ 9223372036854775807 := Nat.le_trans h'.cap h'.big
  have hl := Lib.hid h.len
  have hl' := Lib.hid h'.len
  by_cases hnn : n = n'
  · subst hnn
    have t0 : ((n : Int) != (n : Int)) = false := by simp
    go_enter Tryz.func13, Tryz.ntmps13
    go_wp2
    go_loopw [5] (fun i wr => ∃ k q : Nat, k ≤ n ∧ i = .int .i64 k ∧ l.take k = l'.take k ∧ wr = w.drewN q) (fun i _ => n - (intOf i).toNat)
    case atStart => exact ⟨0, 0, Nat.zero_le _, rfl, by simp, rfl⟩
    case round =>
      obtain ⟨k, q, hk, rfl, htk, rfl⟩ := hrel
      have Htk := Lib.hid htk
      clear htk
      by_cases hlt : k < n
      · obtain ⟨ad, x, rfl, hx, hxk, hc⟩ := h.get hlt
        obtain ⟨ad', x', rfl, hx', hxk', hc'⟩ := h'.get hlt
        have hi : (k : Int) < n := by omega
        have hi0 : (0 : Int) ≤ (k : Int) := by omega
        clear h h'
        by_cases hxx : x = x'
        · subst hxx
          go_wp2
          go_quiet (fail)
          go_wp2
          go_roundw
          case rel => exact ⟨k + 1, q + nq, by omega, by go_num, by rw [hx.out, hx'.out, Htk.out], rfl⟩
          case measure => simp [intOf]; omega
        · have hne : (w8 x != w8 x') = true := by
            rw [bne_iff_ne]; intro e; exact hxx (w8_inj e)
          have Hxx := Lib.hid hxx
          clear hxx
          go_wp2
          go_quiet (fail)
          go_wp2
          go_ret
          refine ⟨ret_bool ?_, q + nq, World.drewN_drewN _ _ _⟩
          symm
          rw [decide_eq_false_iff_not]
          rintro rfl
          have e := hxk.out.symm.trans hxk'.out
          injection e with e
          exact Hxx.out e
      · have hkn : k = n := by omega
        subst hkn
        go_wp2
        go_ret
        refine ⟨ret_bool ?_, q, rfl⟩
        symm
        rw [decide_eq_true_iff]
        have e := Htk.out
        rw [← hl.out, List.take_length, hl.out, ← hl'.out, List.take_length] at e
        exact e
  · have t0 : ((n : Int) != (n' : Int)) = true := by rw [bne_iff_ne]; omega
    have Hnn := Lib.hid hnn
    clear hnn h h'
    go_enter Tryz.func13, Tryz.ntmps13
    go_wp2
    go_ret
    refine ⟨ret_bool ?_, 0, rfl⟩
    symm
    rw [decide_eq_false_iff_not]
    rintro rfl
    exact Hnn.out (hl.out.symm.trans hl'.out)

set_option maxRecDepth 100000 in
set_option maxHeartbeats 400000 in
theorem roomy_any (A : Option Addr) (n c : Nat) (l : List UInt8) (m : UInt8) (w : World) (h : RdB w A n c l) (hsmall : n ≤ 1000000) :
    Calls Tryz.prog 16 #[.slice A n c, .int .u8 (w8 m)] w fun e w' => e = .returned (.slice (some ⟨w.heap.size, 0, none⟩) (n + 80) (n + 80)) ∧
      Bb w' w.heap.size 5 (l ++ rep 80 m) ∧ Below w.heap.size w w' := by
  have hl := Lib.hid h.len
  have hmk := mk_bytes (n + 80) ((n : Int) + 80) (by omega) (by omega)
  have hnew := Bb.made w (n + 80)
  have hbel : Below w.heap.size w (w.alloc (zeroBytes (n + 80))) := (Below.refl _ _).alloc (Nat.le_refl _) _
  have hr := h.ext hbel
  go_enter Tryz.func16, Tryz.ntmps16
  go_wp2_with (refine wpList_copy_bytes rfl (.tmp 11) (.tmp 12) 27 27 rfl 5 Tryz.underlying27 size_byte (some ⟨w.heap.size, 0, none⟩) A (n + 80) (n + 80) n c rfl rfl w.heap.size 0 _ 5 hnew l hr rfl (by simp) w.heap.size w hbel (Nat.le_refl _) ?_; intro w1 hb1 hbel1; clear hnew hbel hr)
  go_loopw [6] (fun i wr => ∃ k : Nat, k ≤ 80 ∧ i = .int .i64 ((n : Int) + k) ∧ Bb wr w.heap.size 5 (l ++ (rep k m ++ rep (80 - k) 0)) ∧ Below w.heap.size w wr)
    (fun i _ => n + 80 - (intOf i).toNat)
  case atStart =>
    refine ⟨0, by omega, by simp, ?_, hbel1⟩
    have hb := hb1.out
    have e : laid (List.replicate (n + 80) (0 : UInt8)) 0 (l.take (n + 80)) = l ++ (rep 0 m ++ rep (80 - 0) 0) := by
      have h1 := hl.out
      have h2 : l.take (n + 80) = l := List.take_of_length_le (by omega)
      unfold laid rep
      rw [h2, List.take_zero, List.nil_append, Nat.zero_add, List.drop_replicate, h1, show n + 80 - n = 80 by omega]
      rfl
    rw [e] at hb
    exact hb
  case round =>
    obtain ⟨k, hk, rfl, hbk, hbel⟩ := hrel
    by_cases hlt : k < 80
    · have hi : (n : Int) + k < n + 80 := by omega
      obtain ⟨x, _, hc⟩ := hbk.get (i := n + k) (by have := hl.out; rw [List.length_append, List.length_append, rep_len, rep_len]; omega)
      have hf := hbk.thaw (n + k)
      have Hbk := Lib.hid hbk
      clear hbk
      go_wp2
      go_roundw
      case rel =>
        refine ⟨k + 1, by omega, by simp; omega, ?_, hbel.setCell (Nat.le_refl _) _⟩
        have h1 := Hbk.out.put (n + k) m
        have h2 := hl.out
        have e : (l ++ (rep k m ++ rep (80 - k) 0)).set (n + k) m = l ++ (rep (k + 1) m ++ rep (80 - (k + 1)) 0) := by
          rw [List.set_append_right _ _ (by omega), List.set_append_right _ _ (by rw [rep_len]; omega), show 80 - k = (80 - (k + 1)) + 1 by omega, rep_len, h2]
          unfold rep
          rw [List.replicate_succ, List.replicate_succ', show n + k - n - k = 0 by omega]
          simp
        rw [e] at h1
        exact h1
      case measure => simp [intOf]; omega
    · have hk80 : k = 80 := by omega
      subst hk80
      go_wp2
      go_ret
      refine ⟨rfl, ?_, hbel⟩
      have e : l ++ (rep 80 m ++ rep (80 - 80) 0) = l ++ rep 80 m := by
        show l ++ (rep 80 m ++ []) = _
        rw [List.append_nil]
      rw [e] at hbk
      exact hbk

set_option maxRecDepth 100000 in
set_option maxHeartbeats 400000 in
theorem intact_any (A : Option Addr) (n c : Nat) (l : List UInt8) (A' : Option Addr) (n' c' : Nat) (l' : List UInt8) (m : UInt8) (w : World) (h : RdB w A n c l) (h' : RdB w A' n' c' l') (hsmall : n' ≤ 1000000) :
    Calls Tryz.prog 21 #[.slice A n c, .slice A' n' c', .int .u8 (w8 m)] w fun e w' => e = .returned (.bool (decide (l = l' ++ rep 80 m))) ∧ ∃ q, w' = w.drewN q := by
  have hn : n ≤ 9223372036854775807 := Nat.le_trans h.cap h.big
  have hn' : n' ≤ 9223372036854775807 := Nat.le_trans h'.cap h'.big
  have hcn := h.cap
  have hl := Lib.hid h.len
  have hl' := Lib.hid h'.len
  by_cases hnn : n = n' + 80
  · subst hnn
    have t0 : ((n' : Int) + 80 != (n' : Int) + 80) = false := by simp
    have hu := h.upto n' (by omega)
    by_cases hs : l.take n' = l'
    · have hd : decide (l.take n' = l') = true := by simpa using hs
      have Hs := Lib.hid hs
      have h0 := bookSame_any A n' c (l.take n') A' n' c' l' w hu h'
      rw [hd] at h0
      have H := Lib.hid h0
      clear hs hd h0
      go_enter Tryz.func21, Tryz.ntmps21
      go_wp2_with fail
      refine H.out.mono ?_
      rintro e w' ⟨rfl, q, rfl⟩
      go_wp2_with fail
      go_loop [7] (fun i => ∃ k : Nat, k ≤ 80 ∧ i = .int .i64 ((n' : Int) + k) ∧ l.take (n' + k) = l' ++ rep k m) (fun i => n' + 80 - (intOf i).toNat)
      case atStart => exact ⟨0, by omega, by simp, by rw [Nat.add_zero, Hs.out]; exact (List.append_nil _).symm⟩
      case round =>
        obtain ⟨k, hk, rfl, htk⟩ := hrel
        have Htk := Lib.hid htk
        clear htk
        by_cases hlt : k < 80
        · have hi : (n' : Int) + k < n' + 80 := by omega
          obtain ⟨ad, x, rfl, hx, hxk, hc⟩ := h.get (show n' + k < n' + 80 by omega)
          by_cases hxm : x = m
          · subst hxm
            clear h h' hu H Hs
            go_wp2
            go_round
            case rel =>
              refine ⟨k + 1, by omega, by simp; omega, ?_⟩
              have e := hx.out
              rw [Htk.out] at e
              rw [← Nat.add_assoc, e, show rep (k + 1) x = rep k x ++ [x] from List.replicate_succ', List.append_assoc]
            case measure => simp [intOf]; omega
          · have hne : (w8 x != w8 m) = true := by
              rw [bne_iff_ne]; intro e; exact hxm (w8_inj e)
            have Hxm := Lib.hid hxm
            clear hxm h h' hu H Hs
            go_wp2
            go_ret
            refine ⟨ret_bool ?_, q, rfl⟩
            symm
            rw [decide_eq_false_iff_not]
            intro e
            have e1 := hxk.out
            rw [e] at e1
            have h2 := hl'.out
            rw [List.getElem?_append_right (by omega)] at e1
            rw [rep_get _ _ _ (by omega)] at e1
            injection e1 with e1
            exact Hxm.out e1.symm
        · have hk80 : k = 80 := by omega
          subst hk80
          clear h h' hu H
          go_wp2
          go_ret
          refine ⟨ret_bool ?_, q, rfl⟩
          symm
          rw [decide_eq_true_iff]
          have e := Htk.out
          rw [← hl.out, List.take_length] at e
          exact e
    · have hd : decide (l.take n' = l') = false := by simpa using hs
      have Hs := Lib.hid hs
      have h0 := bookSame_any A n' c (l.take n') A' n' c' l' w hu h'
      rw [hd] at h0
      have H := Lib.hid h0
      clear hs hd h0
      go_enter Tryz.func21, Tryz.ntmps21
      go_wp2_with fail
      refine H.out.mono ?_
      rintro e w' ⟨rfl, q, rfl⟩
      clear H h h' hu
      go_wp2
      go_ret
      refine ⟨ret_bool ?_, q, rfl⟩
      symm
      rw [decide_eq_false_iff_not]
      intro e
      apply Hs.out
      rw [e, ← hl'.out, List.take_left]
  · have t0 : ((n : Int) != (n' : Int) + 80) = true := by rw [bne_iff_ne]; omega
    have Hnn := Lib.hid hnn
    clear hnn h h'
    go_enter Tryz.func21, Tryz.ntmps21
    go_wp2
    go_ret
    refine ⟨ret_bool ?_, 0, rfl⟩
    symm
    rw [decide_eq_false_iff_not]
    intro e
    have e1 := congrArg List.length e
    rw [List.length_append, rep_len, hl.out, hl'.out] at e1
    exact Hnn.out e1

end Go.Proofs.YtpfdbbcfcimmfaaGreatDoor
