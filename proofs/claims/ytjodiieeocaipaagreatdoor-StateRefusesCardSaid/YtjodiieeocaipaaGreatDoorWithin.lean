/-
  The walk of stavebook's Within.
-/
import Derived.Test.YtjodiieeocaipaaGreatDoorBase
namespace Go.Proofs.YtjodiieeocaipaaGreatDoor
open Go.RowKit

/-- a number brought into lo .. hi -/
def within (n lo hi : Int) : Int := lo + n.emod (hi - lo + 1)
theorem within_in (n lo hi : Int) (h : lo ≤ hi) : lo ≤ within n lo hi ∧ within n lo hi ≤ hi := by
  unfold within
  have h1 := Int.emod_nonneg n (show hi - lo + 1 ≠ 0 by omega)
  have h2 := Int.emod_lt_of_pos n (show 0 < hi - lo + 1 by omega)
  change 0 ≤ n.emod (hi - lo + 1) at h1
  change n.emod (hi - lo + 1) < _ at h2
  omega
set_option maxRecDepth 100000 in
set_option maxHeartbeats 400000 in
theorem within_any (n lo hi : Int) (w : World) (h : lo ≤ hi) (hlo : -1000000 ≤ lo) (hhi : hi ≤ 200000000000000) (hn : -9223372036854775808 ≤ n) (hn' : n ≤ 9223372036854775807) :
    Calls Tryz.prog 14 #[.int .i64 n, .int .i64 lo, .int .i64 hi] w fun e w' => e = .returned (.int .i64 (within n lo hi)) ∧ w = w' := by
  have hm0 : 0 < hi - lo + 1 := by omega
  have ht1 : n.tmod (hi - lo + 1) < hi - lo + 1 := by
    by_cases hp : 0 ≤ n
    · rw [Int.tmod_eq_emod_of_nonneg hp]; exact Int.emod_lt_of_pos _ hm0
    · have h1 := Int.emod_nonneg (-n) (show hi - lo + 1 ≠ 0 by omega)
      rw [show n.tmod (hi - lo + 1) = -((-n).tmod (hi - lo + 1)) by rw [Int.neg_tmod]; omega, Int.tmod_eq_emod_of_nonneg (by omega)]
      omega
  have ht2 : -(hi - lo + 1) < n.tmod (hi - lo + 1) := by
    by_cases hp : 0 ≤ n
    · rw [Int.tmod_eq_emod_of_nonneg hp]; have := Int.emod_nonneg n (show hi - lo + 1 ≠ 0 by omega); omega
    · have h1 := Int.emod_lt_of_pos (-n) hm0
      rw [show n.tmod (hi - lo + 1) = -((-n).tmod (hi - lo + 1)) by rw [Int.neg_tmod]; omega, Int.tmod_eq_emod_of_nonneg (by omega)]
      omega
  have hneg : n.tmod (hi - lo + 1) < 0 → lo + (n.tmod (hi - lo + 1) + hi - lo + 1) = within n lo hi := by
    intro hl
    have e : n.emod (hi - lo + 1) = n.tmod (hi - lo + 1) + (hi - lo + 1) := by
      have h1 := Int.tmod_add_mul_tdiv n (hi - lo + 1)
      have : n = (n.tmod (hi - lo + 1) + (hi - lo + 1)) + (hi - lo + 1) * (n.tdiv (hi - lo + 1) - 1) := by
        rw [Int.mul_sub]; omega
      show n % (hi - lo + 1) = _
      conv => lhs; rw [this]
      rw [Int.add_mul_emod_self_left]
      exact Int.emod_eq_of_lt (by omega) (by omega)
    unfold within; rw [e]; omega
  have hpos : 0 ≤ n.tmod (hi - lo + 1) → lo + n.tmod (hi - lo + 1) = within n lo hi := by
    intro hl
    have e : n.emod (hi - lo + 1) = n.tmod (hi - lo + 1) := by
      have h1 := Int.tmod_add_mul_tdiv n (hi - lo + 1)
      show n % (hi - lo + 1) = _
      conv => lhs; rw [← h1]
      rw [Int.add_mul_emod_self_left]
      exact Int.emod_eq_of_lt (by omega) (by omega)
    unfold within; rw [e]
  have Hneg := Lib.hid hneg
  have Hpos := Lib.hid hpos
  clear hneg hpos
  by_cases hs : n.tmod (hi - lo + 1) < 0
  all_goals
    go_enter Tryz.func14, Tryz.ntmps14
    go_wp2
    go_ret
    first | exact ⟨ret_int (Hneg.out hs), rfl⟩ | exact ⟨ret_int (Hpos.out (by omega)), rfl⟩

/-- brought into 0 .. hi: a place -/
theorem within_nat (n hi : Int) (w : World) (h : 0 ≤ hi) (hhi : hi ≤ 200000000000000) (hn : -9223372036854775808 ≤ n) (hn' : n ≤ 9223372036854775807) :
    Calls Tryz.prog 14 #[.int .i64 n, .int .i64 0, .int .i64 hi] w fun e w' => ∃ k : Nat, e = .returned (.int .i64 k) ∧ (k : Int) ≤ hi ∧ w = w' := by
  refine (within_any n 0 hi w h (by omega) hhi hn hn').mono ?_
  rintro e w' ⟨rfl, rfl⟩
  have hw := within_in n 0 hi h
  refine ⟨(within n 0 hi).toNat, ?_, by omega, rfl⟩
  rw [Int.toNat_of_nonneg hw.1]
end Go.Proofs.YtjodiieeocaipaaGreatDoor
