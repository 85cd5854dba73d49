/-
  Numbers as bytes, the lowest first, and back: plain lists.
-/
import Derived.Test.YtjodiieeocaipaaGreatDoorBase
namespace Go.Proofs.YtjodiieeocaipaaGreatDoor
open Go.RowKit

/-- byte i of a number -/
def byteAt (x i : Nat) : UInt8 := UInt8.ofNat (x / 2 ^ (8 * i))
/-- the k lowest bytes -/
def leB : Nat → Nat → List UInt8
  | 0, _ => []
  | k + 1, x => UInt8.ofNat x :: leB k (x / 256)
/-- the number of bytes -/
def leN : List UInt8 → Nat
  | [] => 0
  | b :: r => b.toNat + 256 * leN r
theorem leB_len (k : Nat) : ∀ x, (leB k x).length = k := by
  induction k with
  | zero => intro x; rfl
  | succ k ih => intro x; simp [leB, ih]
theorem byteAt_zero (x : Nat) : byteAt x 0 = UInt8.ofNat x := by simp [byteAt]
theorem byteAt_succ (x i : Nat) : byteAt x (i + 1) = byteAt (x / 256) i := by
  unfold byteAt
  rw [Nat.div_div_eq_div_mul, show 8 * (i + 1) = 8 + 8 * i by omega, Nat.pow_add]
theorem leB_snoc (k : Nat) : ∀ x, leB (k + 1) x = leB k x ++ [byteAt x k] := by
  induction k with
  | zero => intro x; simp [leB, byteAt_zero]
  | succ k ih =>
    intro x
    show UInt8.ofNat x :: leB (k + 1) (x / 256) = UInt8.ofNat x :: (leB k (x / 256) ++ [byteAt x (k + 1)])
    rw [ih, byteAt_succ]
theorem leN_leB (k : Nat) : ∀ x, leN (leB k x) = x % 256 ^ k := by
  induction k with
  | zero => intro x; simp [leB, leN, Nat.mod_one]
  | succ k ih =>
    intro x
    show (UInt8.ofNat x).toNat + 256 * leN (leB k (x / 256)) = _
    rw [ih, UInt8.toNat_ofNat', show (256 : Nat) ^ (k + 1) = 256 * 256 ^ k by rw [Nat.pow_succ, Nat.mul_comm], Nat.mod_mul]
theorem leB_leN (l : List UInt8) : leB l.length (leN l) = l := by
  induction l with
  | nil => rfl
  | cons b r ih =>
    show UInt8.ofNat (b.toNat + 256 * leN r) :: leB r.length ((b.toNat + 256 * leN r) / 256) = _
    have hb := b.toNat_lt
    have e1 : UInt8.ofNat (b.toNat + 256 * leN r) = b := by
      apply UInt8.toNat_inj.1
      rw [UInt8.toNat_ofNat']
      omega
    have e2 : (b.toNat + 256 * leN r) / 256 = leN r := by omega
    rw [e1, e2, ih]
theorem leN_lt (l : List UInt8) : leN l < 256 ^ l.length := by
  induction l with
  | nil => simp [leN]
  | cons b r ih =>
    have hb := b.toNat_lt
    show b.toNat + 256 * leN r < 256 ^ (r.length + 1)
    rw [Nat.pow_succ]
    omega
theorem leN_append (l r : List UInt8) : leN (l ++ r) = leN l + 256 ^ l.length * leN r := by
  induction l with
  | nil => simp [leN]
  | cons b l ih =>
    show b.toNat + 256 * leN (l ++ r) = b.toNat + 256 * leN l + 256 ^ (l.length + 1) * leN r
    rw [ih, Nat.mul_add, Nat.pow_succ, ← Nat.mul_assoc, Nat.mul_comm 256 (256 ^ l.length)]
    omega
theorem leN_snoc (l : List UInt8) (b : UInt8) : leN (l ++ [b]) = leN l + 256 ^ l.length * b.toNat := by
  rw [leN_append]; simp [leN]
/-- a byte put behind what was laid -/
theorem laid_snoc (old new : List UInt8) (off : Nat) (b : UInt8) (h : off + new.length < old.length) : (laid old off new).set (off + new.length) b = laid old off (new ++ [b]) := by
  unfold laid
  have h1 : (old.take off).length = off := by rw [List.length_take]; omega
  rw [List.set_append_right _ _ (by omega), h1, List.set_append_right _ _ (by omega), show off + new.length - off - new.length = 0 by omega, List.length_append, List.length_singleton, List.append_assoc]
  congr 2
  obtain ⟨y, hy⟩ : ∃ y, old[off + new.length]? = some y := ⟨_, List.getElem?_eq_getElem h⟩
  have h2 := (List.getElem?_eq_some_iff.1 hy)
  rw [List.drop_eq_getElem_cons h, List.set_cons_zero]
  rfl
theorem laid_nil (old : List UInt8) (off : Nat) : laid old off [] = old := by
  unfold laid; simp
theorem byteAt_w8 (x k : Nat) : ((x : Int) / 2 ^ (8 * k)) % 256 = w8 (byteAt x k) := by
  unfold w8 byteAt
  rw [UInt8.toNat_ofNat']
  have e : ((x : Int) / 2 ^ (8 * k)) = ((x / 2 ^ (8 * k) : Nat) : Int) := by
    rw [Int.natCast_ediv]
    simp
  rw [e]
  omega
/-- what a signed number of 64 bits makes of bytes -/
def wrapN (n : Nat) : Int := if n < 9223372036854775808 then (n : Int) else (n : Int) - 18446744073709551616
theorem ofInt_wrapN (n : Nat) : BitVec.ofInt 64 (wrapN n) = BitVec.ofNat 64 n := by
  apply BitVec.eq_of_toNat_eq
  rw [BitVec.toNat_ofInt, BitVec.toNat_ofNat]
  unfold wrapN
  split <;> omega
theorem ofInt_wrap64 (z : Int) : BitVec.ofInt 64 (wrap64 z) = BitVec.ofInt 64 z := by
  apply BitVec.eq_of_toNat_eq
  rw [BitVec.toNat_ofInt, BitVec.toNat_ofInt]
  unfold wrap64
  congr 1
  omega
theorem wrap_wrapN (n : Nat) (h : n < 18446744073709551616) : IntKind.i64.wrap (n : Int) = wrapN n := by
  rw [IntKind.wrap_i64]
  unfold wrapN
  split <;> omega
theorem pow8_le (k : Nat) (hk : k ≤ 7) : (2 : Nat) ^ (8 * k) ≤ 72057594037927936 := by
  have := Nat.pow_le_pow_right (show 0 < 2 by omega) (show 8 * k ≤ 56 by omega)
  omega
/-- one byte more into a signed number of 64 bits -/
theorem or_step (a k : Nat) (x : UInt8) (hk : k ≤ 7) (ha : a < 2 ^ (8 * k)) : bits .or .i64 (wrapN a) (wrap64 (w8 x * 2 ^ (8 * k))) = wrapN (a + 2 ^ (8 * k) * x.toNat) := by
  have hp := pow8_le k hk
  have hx := x.toNat_lt
  have hmul : 2 ^ (8 * k) * x.toNat ≤ 72057594037927936 * 255 := Nat.mul_le_mul hp (by omega)
  have e : w8 x * 2 ^ (8 * k) = ((2 ^ (8 * k) * x.toNat : Nat) : Int) := by
    unfold w8
    rw [Int.natCast_mul, Int.mul_comm]
    simp
  show IntKind.i64.wrap ((BitVec.ofInt 64 (wrapN a) ||| BitVec.ofInt 64 (wrap64 (w8 x * 2 ^ (8 * k)))).toNat : Int) = _
  rw [ofInt_wrapN, ofInt_wrap64, e, BitVec.ofInt_natCast, BitVec.toNat_or, BitVec.toNat_ofNat, BitVec.toNat_ofNat, Nat.mod_eq_of_lt (show a < 2 ^ 64 by omega), Nat.mod_eq_of_lt (show 2 ^ (8 * k) * x.toNat < 2 ^ 64 by omega),
    Nat.or_comm, nat_join (8 * k) _ _ (Nat.mul_mod_right _ _) ha, Nat.add_comm, wrap_wrapN _ (by omega)]
/-- one byte more, from below, into a number without sign -/
theorem shl_step (a : Nat) (x : UInt8) (ha : a < 72057594037927936) : bits .or .u64 ((a : Int) * 256) (w8 x) = ((x.toNat + 256 * a : Nat) : Int) := by
  have hx := x.toNat_lt
  have e : (a : Int) * 256 = ((256 * a : Nat) : Int) := by omega
  unfold w8
  rw [e, u64_or_nat _ _ (by omega) (by omega), nat_join 8 _ _ (by omega) (by omega), Nat.add_comm]
theorem laid_mid (p m q new : List UInt8) (off : Nat) (hp : p.length = off) (hm : m.length = new.length) : laid (p ++ (m ++ q)) off new = p ++ (new ++ q) := by
  unfold laid
  subst hp
  rw [List.take_left, ← hm, ← List.append_assoc p m q, ← List.length_append, List.drop_left]
theorem wrap_u64_in (z : Int) (h0 : 0 ≤ z) (h1 : z < 18446744073709551616) : IntKind.u64.wrap z = z := by
  rw [IntKind.wrap_u64, Int.emod_eq_of_lt h0 h1]
theorem shl_step' (a : Nat) (x : UInt8) (ha : a < 72057594037927936) : bits .or .u64 (IntKind.u64.wrap ((a : Int) * 256)) (IntKind.u64.wrap (w8 x)) = ((x.toNat + 256 * a : Nat) : Int) := by
  have hx := w8_lt x
  rw [← shl_step a x ha, IntKind.wrap_u64, IntKind.wrap_u64, Int.emod_eq_of_lt (by omega) (by omega), Int.emod_eq_of_lt (by omega) (by omega)]
theorem leN_drop (l : List UInt8) (k : Nat) (x : UInt8) (h : l[k]? = some x) : leN (l.drop k) = x.toNat + 256 * leN (l.drop (k + 1)) := by
  obtain ⟨hk, hx⟩ := List.getElem?_eq_some_iff.1 h
  rw [List.drop_eq_getElem_cons hk, hx]
  rfl
theorem pow256 (k : Nat) : 256 ^ k = 2 ^ (8 * k) := by
  rw [Nat.pow_mul]
end Go.Proofs.YtjodiieeocaipaaGreatDoor
