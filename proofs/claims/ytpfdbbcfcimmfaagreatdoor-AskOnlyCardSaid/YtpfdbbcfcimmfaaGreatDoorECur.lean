/-
  gram: the cursor's num.
-/
import Derived.Test.YtpfdbbcfcimmfaaGreatDoorEMem
namespace Go.Proofs.YtpfdbbcfcimmfaaGreatDoor
open Go.RowKit
attribute [local go_sem] w8_nn w8_256 wrap_i64_w8 wrap64_w8 pastA_zero pastA_some
attribute [local go_sem ↓] sliced_past

/-- the cursor: bytes, where, what is wrong -/
def Cur (w : World) (g : Nat) (A : Option Addr) (n c : Nat) (p : Nat) (bad : Int) : Prop := Bk w g 117 #[.slice A n c, .int .i64 p, .int .i64 bad]
/-- what num hands back, where it stands then, what is wrong -/
def numS (size : Nat) (lo hi : Int) (l : List UInt8) (p : Nat) (bad : Int) : Int × Nat × Int :=
  if bad = 0 then (match getN size lo hi (l.drop p) with | .ok (m, _) => (m, p + size, 0) | .error k => (0, p, k)) else (0, p, bad)
theorem or_u64 (a k : Nat) (x : UInt8) (hk : k ≤ 7) (ha : a < 2 ^ (8 * k)) : bits .or .u64 (a : Int) (IntKind.u64.wrap (IntKind.u64.wrap (w8 x) * 2 ^ (8 * k))) = ((a + 2 ^ (8 * k) * x.toNat : Nat) : Int) := by
  have hp := pow8_le k hk
  have hx := x.toNat_lt
  have hmul : 2 ^ (8 * k) * x.toNat ≤ 72057594037927936 * 255 := Nat.mul_le_mul hp (by omega)
  have hw := w8_lt x
  rw [wrap_u64_in (w8 x) hw.1 (by omega)]
  have e : w8 x * 2 ^ (8 * k) = ((2 ^ (8 * k) * x.toNat : Nat) : Int) := by
    unfold w8
    rw [Int.natCast_mul, Int.mul_comm]
    simp
  rw [e, wrap_u64_in _ (by omega) (by omega)]
  show IntKind.u64.wrap ((BitVec.ofInt 64 (a : Int) ||| BitVec.ofInt 64 ((2 ^ (8 * k) * x.toNat : Nat) : Int)).toNat : Int) = _
  rw [BitVec.ofInt_natCast, BitVec.ofInt_natCast, BitVec.toNat_or, BitVec.toNat_ofNat, BitVec.toNat_ofNat, Nat.mod_eq_of_lt (show a < 2 ^ 64 by omega), Nat.mod_eq_of_lt (show 2 ^ (8 * k) * x.toNat < 2 ^ 64 by omega),
    Nat.or_comm, nat_join (8 * k) _ _ (Nat.mul_mod_right _ _) ha, Nat.add_comm, wrap_u64_in _ (by omega) (by omega)]
set_option maxRecDepth 100000 in
set_option maxHeartbeats 1000000 in
theorem num_any (g : Nat) (A : Option Addr) (n c : Nat) (l : List UInt8) (p : Nat) (bad : Int) (size : Nat) (lo hi : Int) (w : World) (hr : RdB w A n c l) (hc : Cur w g A n c p bad) (hp : p ≤ n) (hs : size ≤ 8) (hlo : 0 ≤ lo) (hlh : lo ≤ hi) (hhi : hi ≤ 9223372036854775807) :
    Calls Tryz.prog 115 #[.pointer (some ⟨g, 0, none⟩), .int .i64 size, .int .i64 lo, .int .i64 hi] w fun e w' => e = .returned (.int .i64 (numS size lo hi l p bad).1) ∧ Cur w' g A n c (numS size lo hi l p bad).2.1 (numS size lo hi l p bad).2.2 ∧ w.grownBy w' (some g) := by
  have c0 : w.cell? ⟨g, 0, none⟩ = some (.slice A n c) := hc.cell 0
  have c1 : w.cell? ⟨g, 1, none⟩ = some (.int .i64 p) := hc.cell 1
  have f1 := hc.thaw 1
  have f2 := hc.thaw 2
  have gr := fun (q : Addr) (hq : q.block = g) (v : Value) => (hq ▸ grown_set w q v : w.grownBy (w.setCell q v) (some g))
  have GR := Lib.hid gr
  clear gr
  have HC := Lib.hid hc
  by_cases hb : bad = 0
  · subst hb
    have c2 : w.cell? ⟨g, 2, none⟩ = some (.int .i64 0) := hc.cell 2
    have hlen := hr.len
    have hcap := hr.cap
    have hbig := hr.big
    clear hc
    by_cases hsh : n - p < size
    · have e : numS size lo hi l p 0 = (0, p, 3) := by
        unfold numS
        rw [if_pos rfl, getN_cut (by rw [List.length_drop]; omega)]
      rw [e]
      clear e
      have hi1 : (n : Int) - p < size := by omega
      have hw1 : IntKind.i64.wrap ((n : Int) - p) = (n : Int) - p := by rw [IntKind.wrap_i64]; omega
      go_enter Tryz.func115, Tryz.ntmps115
      go_wp2
      go_quiet (fail)
      go_wp2
      go_ret
      exact ⟨rfl, (HC.out.drawn _).put 2 _, (grown_of_below (below_drawn (Below.refl _ _) _)).but _ |>.trans (grown_set _ ⟨g, 2, none⟩ _)⟩
    · have hL : (l.drop p).length = n - p := by rw [List.length_drop, hlen]
      have hR := (hr.past' p hp).upto size (by omega)
      have HR := Lib.hid (show RdB w (pastA A p c 1) (p + size - p) (c - p) ((l.drop p).take size) by rw [show p + size - p = size by omega]; exact hR)
      clear hR
      have HRl := Lib.hid (show ((l.drop p).take size).length = size by rw [List.length_take]; omega)
      have hi1 : (size : Int) ≤ (n : Int) - p := by omega
      have hw1 : IntKind.i64.wrap ((n : Int) - p) = (n : Int) - p := by rw [IntKind.wrap_i64]; omega
      have hw2 : IntKind.i64.wrap ((p : Int) + size) = ((p + size : Nat) : Int) := by rw [IntKind.wrap_i64]; omega
      have hpc : (p : Int) ≤ ((p + size : Nat) : Int) := by omega
      have hpc2 : ((p + size : Nat) : Int) ≤ (c : Int) := by omega
      have hpc3 : p ≤ p + size := by omega
      have hpc4 : p + size ≤ c := by omega
      have hsz : p + size - p = size := by omega
      go_enter Tryz.func115, Tryz.ntmps115
      go_wp2
      go_quiet (fail)
      rename Nat => nq1
      go_wp2
      go_quiet (fail)
      clear hw1 hw2 hpc hpc2 hpc3 hpc4 hi1
      go_wp2
      go_loop [9, 10, 11, 48] (fun s _ _ i => ∃ k : Nat, k ≤ size ∧ i = .int .i64 k ∧ s = .int .u64 (leN (((l.drop p).take size).take k))) (fun _ _ _ i => size - (intOf i).toNat)
      case atStart => exact ⟨0, Nat.zero_le _, rfl, rfl⟩
      case round =>
        obtain ⟨k, hk, rfl, rfl⟩ := hrel
        by_cases hlt : k < size
        · have hi : (k : Int) < size := by omega
          have hi2 : (k : Int) < ((p + size - p : Nat) : Int) := by omega
          obtain ⟨ad, x, hA', hx, hxk, hc⟩ := HR.out.get (show k < p + size - p by omega)
          have hk7 : k ≤ 7 := by omega
          have hlt8 := leN_lt (((l.drop p).take size).take k)
          rw [List.length_take, Nat.min_eq_left (by have := HRl.out; omega), pow256] at hlt8
          have hst := or_u64 (leN (((l.drop p).take size).take k)) k x hk7 hlt8
          have Hl8 := Lib.hid (show leN (((l.drop p).take size).take (k + 1)) = leN (((l.drop p).take size).take k) + 2 ^ (8 * k) * x.toNat by rw [hx.out, leN_snoc, List.length_take, Nat.min_eq_left (by have := HRl.out; omega), pow256])
          clear hlt8
          go_wp2
          go_round
          case rel => exact ⟨_, _, _, _, ⟨k + 1, by omega, rfl, rfl⟩, by rw [Hl8.out]; simp, rfl, rfl, by go_num⟩
          case measure => simp [intOf]; omega
        · obtain rfl : k = size := by omega
          have ht : ((l.drop p).take k).take k = (l.drop p).take k := by rw [List.take_take, Nat.min_self]
          rw [ht]
          have hlt8 := leN_lt ((l.drop p).take k)
          rw [HRl.out, pow256] at hlt8
          have hp64 : 2 ^ (8 * k) ≤ 18446744073709551616 := Nat.pow_le_pow_right (show 0 < 2 by omega) (show 8 * k ≤ 64 by omega)
          have hnum : Hid (∀ m : Nat, leN ((l.drop p).take k) = m → numS k lo hi l p 0 = if lo ≤ (m : Int) ∧ (m : Int) ≤ hi then ((m : Int), p + k, 0) else (0, p, 2)) := by
            rintro m rfl
            unfold numS getN
            rw [if_pos rfl, if_neg (by omega)]
            by_cases h : lo ≤ (leN ((l.drop p).take k) : Int) ∧ (leN ((l.drop p).take k) : Int) ≤ hi
            · rw [if_pos h, if_pos h]
            · rw [if_neg h, if_neg h]
          obtain ⟨m, hm⟩ : ∃ m, leN ((l.drop p).take k) = m := ⟨_, rfl⟩
          have hN := Lib.hid (hnum.out m hm)
          rw [hm] at hlt8 ⊢
          have hm64 : m < 18446744073709551616 := by omega
          have hwl := wrap_u64_in lo hlo (by omega)
          have hwh := wrap_u64_in hi (by omega) (by omega)
          clear hnum hm hlt8 hp64 ht
          by_cases h1 : (m : Int) < lo
          · go_wp2
            rw [hN.out, if_neg (by omega)]
            go_ret
            exact ⟨rfl, (HC.out.drawn _).put 2 _, (grown_of_below (below_drawn (Below.refl _ _) _)).but _ |>.trans (grown_set _ ⟨g, 2, none⟩ _)⟩
          · by_cases h2 : hi < (m : Int)
            · go_wp2
              rw [hN.out, if_neg (by omega)]
              go_ret
              exact ⟨rfl, (HC.out.drawn _).put 2 _, (grown_of_below (below_drawn (Below.refl _ _) _)).but _ |>.trans (grown_set _ ⟨g, 2, none⟩ _)⟩
            · have hw3 : IntKind.i64.wrap (m : Int) = (m : Int) := by rw [IntKind.wrap_i64]; omega
              have hw4 : IntKind.i64.wrap ((p : Int) + k) = ((p + k : Nat) : Int) := by rw [IntKind.wrap_i64]; omega
              go_wp2
              rw [hN.out, if_pos (by omega)]
              go_ret
              exact ⟨rfl, (HC.out.drawn _).put 1 _, (grown_of_below (below_drawn (Below.refl _ _) _)).but _ |>.trans (grown_set _ ⟨g, 1, none⟩ _)⟩
  · have c2 : w.cell? ⟨g, 2, none⟩ = some (.int .i64 bad) := hc.cell 2
    have hb' : (bad != 0) = true := by rw [bne_iff_ne]; exact hb
    have e : numS size lo hi l p bad = (0, p, bad) := by unfold numS; rw [if_neg hb]
    rw [e]
    clear e hc
    go_enter Tryz.func115, Tryz.ntmps115
    go_wp2
    go_ret
    exact ⟨rfl, HC.out, (grown_of_below (Below.refl _ _)).but _⟩
end Go.Proofs.YtpfdbbcfcimmfaaGreatDoor
