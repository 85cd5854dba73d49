/-
  May a byte stand in a name: the law's own loop.
-/
import Derived.Test.YtgigibkadbnplaaDoorGrpFor
import Derived.Test.YtgigibkadbnplaaDoorWithin
namespace Go.Proofs.YtgigibkadbnplaaDoor
open Go.RowKit
attribute [local go_sem] w8_nn w8_256 wrap_i64_w8 wrap64_w8

theorem let_len : LET.length = 38 := rfl
theorem isLet_of {x : UInt8} {k : Nat} (h : LET[k]? = some x) : isLet x = true := List.contains_iff_mem.2 (List.mem_of_getElem? h)
theorem isLet_not {x : UInt8} (h : ∀ j < 38, LET[j]? ≠ some x) : isLet x = false := by
  cases hx : isLet x
  · rfl
  · obtain ⟨j, hj⟩ := List.mem_iff_getElem?.1 (List.contains_iff_mem.1 hx)
    have hlt : j < 38 := by rw [← let_len]; exact (List.getElem?_eq_some_iff.1 hj).1
    exact absurd hj (h j hlt)
set_option maxRecDepth 100000 in
set_option maxHeartbeats 1000000 in
theorem stand_any (x : UInt8) (w : World) : Calls Tryd.prog 14 #[.int .u8 (w8 x)] w fun e w' => e = .returned (.bool (isLet x)) ∧ Below w.heap.size w w' := by
  have kc := kc_bytes w
  have hr : ∀ (C : Array Value) (hC : C = (bvs LET).toArray), RdB (w.alloc (.cells C 5 (38, 39))) (some ⟨w.heap.size, 0, none⟩) 38 38 LET := fun C hC => RdB.const w LET C hC 5 (38, 39) 38 rfl (by omega)
  have HR := Lib.hid hr
  clear hr
  go_enter Tryd.func14, Tryd.ntmps14
  go_wp2_with fail
  refine wp_cut (fun w' => RdB w' (some ⟨w.heap.size, 0, none⟩) 38 38 LET ∧ Below w.heap.size w w') ⟨HR.out _ rfl, below_new w _⟩ ?_
  clear kc HR
  rintro w1 ⟨hr, hb⟩
  have Hb := Lib.hid hb
  clear hb
  go_loop [8] (fun v => ∃ k : Nat, k ≤ 38 ∧ v = .int .i64 k ∧ ∀ j < k, LET[j]? ≠ some x) (fun v => 38 - (intOf v).toNat)
  case atStart => exact ⟨0, by omega, rfl, fun j hj => absurd hj (Nat.not_lt_zero _)⟩
  case round =>
    obtain ⟨k, hk, rfl, hno⟩ := hrel
    have Hno := Lib.hid hno
    clear hno
    by_cases hlt : k < 38
    · obtain ⟨ad, y, had, hy, hyk, hc⟩ := hr.get hlt
      obtain rfl : (⟨w.heap.size, 0, none⟩ : Addr) = ad := Option.some.inj had
      rw [Addr.add_none, Nat.zero_add] at hc
      have hi : (k : Int) < 38 := by omega
      clear hr had
      by_cases hxy : x = y
      · subst hxy
        have hbt : (w8 x == w8 x) = true := by simp
        go_wp2
        go_ret
        exact ⟨ret_bool (isLet_of hyk.out).symm, Hb.out⟩
      · have hne : (w8 x == w8 y) = false := by rw [beq_eq_false_iff_ne]; intro e; exact hxy (w8_inj e)
        have Hxy := Lib.hid hxy
        clear hxy
        go_wp2
        go_round
        case rel => exact ⟨k + 1, by omega, by go_num, fun j hj => by
          by_cases hjk : j < k
          · exact Hno.out j hjk
          · obtain rfl : j = k := by omega
            rw [hyk.out]
            exact fun e => Hxy.out (Option.some.inj e).symm⟩
        case measure => simp [intOf]; omega
    · obtain rfl : k = 38 := by omega
      go_wp2
      go_ret
      exact ⟨ret_bool (isLet_not Hno.out).symm, Hb.out⟩
end Go.Proofs.YtgigibkadbnplaaDoor
