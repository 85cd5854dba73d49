/-
  Four bytes of a good frame turned: it is told.
-/
import Derived.Test.YtcggnphoekmoaaaFrmLaw
namespace Go.Proofs.Ytcggnphoekmoaaa
open Go.RowKit CrcMath
/-- byte i of x -/
def byteOf (x : BitVec 32) (i : Nat) : UInt8 := lowB (x >>> (8 * i))
/-- the first j of four bytes from place k on turned by x -/
def mixTo (l : List UInt8) (k : Nat) (x : BitVec 32) : Nat → List UInt8
  | 0 => l
  | j + 1 => (mixTo l k x j).set (k + j) (((mixTo l k x j)[k + j]?.getD 0) ^^^ byteOf x j)
theorem mixTo_len (l : List UInt8) (k : Nat) (x : BitVec 32) (j : Nat) : (mixTo l k x j).length = l.length := by
  induction j with
  | zero => rfl
  | succ j ih => simp [mixTo, ih]
theorem mixTo_get (l : List UInt8) (k : Nat) (x : BitVec 32) (j : Nat) (h : k + j ≤ l.length) : ∀ i : Nat, (mixTo l k x j)[i]? = if k ≤ i ∧ i < k + j then some ((l[i]?.getD 0) ^^^ byteOf x (i - k)) else l[i]? := by
  induction j with
  | zero => intro i; rw [if_neg (by omega)]; rfl
  | succ j ih =>
    intro i
    have ih' := ih (by omega)
    show ((mixTo l k x j).set (k + j) _)[i]? = _
    rw [List.getElem?_set]
    by_cases e : k + j = i
    · subst e
      rw [if_pos rfl, if_pos (by rw [mixTo_len]; omega), if_pos (by omega), ih', if_neg (by omega), show k + j - k = j by omega]
    · rw [if_neg e, ih']
      by_cases h1 : k ≤ i ∧ i < k + j
      · rw [if_pos h1, if_pos (by omega)]
      · rw [if_neg h1, if_neg (by omega)]
theorem mixTo_burst (l : List UInt8) (k : Nat) (x : BitVec 32) (h : k + 4 ≤ l.length) : mixTo l k x 4 = burst l k x := by
  apply List.ext_getElem?
  intro i
  rw [mixTo_get l k x 4 h i]
  have h4 : (mix ((l.drop k).take 4) (le4 x)).length = 4 := by unfold mix; rw [List.length_zipWith, List.length_take, List.length_drop]; show min (min 4 (l.length - k)) 4 = 4; omega
  unfold burst
  by_cases h1 : i < k
  · rw [if_neg (by omega), List.append_assoc, List.getElem?_append_left (by rw [List.length_take]; omega), List.getElem?_take, if_pos h1]
  · by_cases h2 : i < k + 4
    · rw [if_pos (by omega), List.append_assoc, List.getElem?_append_right (by rw [List.length_take]; omega), List.length_take, Nat.min_eq_left (by omega), List.getElem?_append_left (by omega)]
      have hi : i < l.length := by omega
      obtain ⟨q, rfl⟩ : ∃ q, i = k + q := ⟨i - k, by omega⟩
      rw [show k + q - k = q by omega]
      unfold mix
      rw [List.getElem?_zipWith, List.getElem?_take, if_pos (by omega), List.getElem?_drop, List.getElem?_eq_getElem hi]
      have hq : q = 0 ∨ q = 1 ∨ q = 2 ∨ q = 3 := by omega
      rcases hq with rfl | rfl | rfl | rfl <;> rfl
    · rw [if_neg (by omega), List.getElem?_append_right (by rw [List.length_append, h4, List.length_take]; omega), List.length_append, h4, List.length_take, Nat.min_eq_left (by omega), List.getElem?_drop]
      congr 1; omega
theorem mixTo_zero (l : List UInt8) (k j : Nat) (h : k + j ≤ l.length) : mixTo l k 0#32 j = l := by
  apply List.ext_getElem?
  intro i
  rw [mixTo_get l k 0#32 j h i]
  split
  · rename_i hi
    have hb : byteOf 0#32 (i - k) = 0 := by
      unfold byteOf lowB
      simp
    rw [hb, List.getElem?_eq_getElem (by omega)]
    simp
  · rfl
theorem mix_bb {w : World} {g : Nat} {l : List UInt8} {k : Nat} {x : BitVec 32} {j : Nat} {y : UInt8} (h : Bb w g 5 (mixTo l k x j)) (hy : (mixTo l k x j)[k + j]? = some y) (b : UInt8) (hb : b = byteOf x j) :
    Bb (w.setCell ⟨g, k + j, none⟩ (.int .u8 (w8 (y ^^^ b)))) g 5 (mixTo l k x (j + 1)) := by
  subst hb
  have h1 := h.put (k + j) (y ^^^ byteOf x j)
  have e : mixTo l k x (j + 1) = (mixTo l k x j).set (k + j) (y ^^^ byteOf x j) := by
    show (mixTo l k x j).set (k + j) _ = _
    rw [hy]; rfl
  rw [e]; exact h1
theorem le4_leB (s : BitVec 32) : le4 s = leB 4 s.toNat := by
  have key : ∀ k, (⟨(s >>> k).setWidth 8⟩ : UInt8) = UInt8.ofNat (s.toNat >>> k) := by
    intro k
    apply UInt8.toNat_inj.1
    show ((s >>> k).setWidth 8).toNat = _
    rw [BitVec.toNat_setWidth, BitVec.toNat_ushiftRight, UInt8.toNat_ofNat']
  have k0 := key 0
  rw [BitVec.ushiftRight_zero, Nat.shiftRight_zero] at k0
  unfold le4
  rw [k0, key 8, key 16, key 24, Nat.shiftRight_eq_div_pow, Nat.shiftRight_eq_div_pow, Nat.shiftRight_eq_div_pow]
  simp [leB, Nat.div_div_eq_div_mul]
/-- a good frame's bytes leave one remainder -/
theorem put_fold (f : Frm) : fold (~~~ 0#32) f.put = oct (oct (oct (oct (~~~ 0#32)))) := by
  unfold Frm.put
  rw [← le4_leB]
  exact (sum_behind f.head (on 0#32 f.head)).1 rfl
theorem burst_got (f : Frm) (hl : f.data.length = 108) (k : Nat) (hk : k ≤ 124) (x : BitVec 32) (hx : ¬ x = 0#32) : got (mixTo f.put k x 4) = false := by
  cases h : got (mixTo f.put k x 4) with
  | false => rfl
  | true =>
    obtain ⟨_, _, hp⟩ := got_parts h
    have h1 := put_fold (frmOf (mixTo f.put k x 4))
    have hlen := put_len hl
    rw [hp, mixTo_burst _ _ _ (by omega), ← put_fold f] at h1
    exact absurd ((burst_fold _ _ _ _ (by omega)).1 h1) hx
end Go.Proofs.Ytcggnphoekmoaaa
