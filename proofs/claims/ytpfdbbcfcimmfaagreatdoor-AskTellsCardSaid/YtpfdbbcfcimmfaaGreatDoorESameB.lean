/-
  The walk of stavebook's Same over bytes.
-/
import Derived.Test.YtpfdbbcfcimmfaaGreatDoorWithin
namespace Go.Proofs.YtpfdbbcfcimmfaaGreatDoor
open Go.RowKit

set_option maxRecDepth 100000 in
set_option maxHeartbeats 400000 in
theorem sameB_any (A : Option Addr) (n c : Nat) (l : List UInt8) (A' : Option Addr) (n' c' : Nat) (l' : List UInt8) (w : World) (h : RdB w A n c l) (h' : RdB w A' n' c' l') :
    Calls Tryz.prog 13 #[.slice A n c, .slice A' n' c'] w fun e w' => e = .returned (.bool (decide (l = l'))) ∧ ∃ q, w' = w.drewN q := by
  have hn : n ≤ 9223372036854775807 := Nat.le_trans h.cap h.big
  have hn' : n' ≤ 9223372036854775807 := Nat.le_trans h'.cap h'.big
  have hl := Lib.hid h.len
  have hl' := Lib.hid h'.len
  by_cases hnn : n = n'
  · subst hnn
    have t0 : ((n : Int) != (n : Int)) = false := by simp
    go_enter Tryz.func13, Tryz.ntmps13
    go_wp2
    go_loopw [5] (fun i wr => ∃ k q : Nat, k ≤ n ∧ i = .int .i64 k ∧ l.take k = l'.take k ∧ wr = w.drewN q) (fun i _ => n - (intOf i).toNat)
    case atStart => exact ⟨0, 0, Nat.zero_le _, rfl, by simp, rfl⟩
    case round =>
      obtain ⟨k, q, hk, rfl, htk, rfl⟩ := hrel
      have Htk := Lib.hid htk
      clear htk
      by_cases hlt : k < n
      · obtain ⟨ad, x, rfl, hx, hxk, hc⟩ := h.get hlt
        obtain ⟨ad', x', rfl, hx', hxk', hc'⟩ := h'.get hlt
        have hi : (k : Int) < n := by omega
        have hi0 : (0 : Int) ≤ (k : Int) := by omega
        clear h h'
        by_cases hxx : x = x'
        · subst hxx
          go_wp2
          go_quiet (fail)
          go_wp2
          go_roundw
          case rel => exact ⟨k + 1, q + nq, by omega, by go_num, by rw [hx.out, hx'.out, Htk.out], rfl⟩
          case measure => simp [intOf]; omega
        · have hne : (w8 x != w8 x') = true := by
            rw [bne_iff_ne]; intro e; exact hxx (w8_inj e)
          have Hxx := Lib.hid hxx
          clear hxx
          go_wp2
          go_quiet (fail)
          go_wp2
          go_ret
          refine ⟨ret_bool ?_, q + nq, World.drewN_drewN _ _ _⟩
          symm
          rw [decide_eq_false_iff_not]
          rintro rfl
          have e := hxk.out.symm.trans hxk'.out
          injection e with e
          exact Hxx.out e
      · have hkn : k = n := by omega
        subst hkn
        go_wp2
        go_ret
        refine ⟨ret_bool ?_, q, rfl⟩
        symm
        rw [decide_eq_true_iff]
        have e := Htk.out
        rw [← hl.out, List.take_length, hl.out, ← hl'.out, List.take_length] at e
        exact e
  · have t0 : ((n : Int) != (n' : Int)) = true := by rw [bne_iff_ne]; omega
    have Hnn := Lib.hid hnn
    clear hnn h h'
    go_enter Tryz.func13, Tryz.ntmps13
    go_wp2
    go_ret
    refine ⟨ret_bool ?_, 0, rfl⟩
    symm
    rw [decide_eq_false_iff_not]
    rintro rfl
    exact Hnn.out (hl.out.symm.trans hl'.out)
end Go.Proofs.YtpfdbbcfcimmfaaGreatDoor
