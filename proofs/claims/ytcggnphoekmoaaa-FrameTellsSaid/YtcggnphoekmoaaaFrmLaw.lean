/-
  Plain laws of frames: what Put makes is read back; what is good is what Put makes.
-/
import Derived.Test.YtcggnphoekmoaaaFrmGet
namespace Go.Proofs.Ytcggnphoekmoaaa
open Go.RowKit CrcMath

theorem wrapN_small {n : Nat} (h : n < 9223372036854775808) : wrapN n = (n : Int) := if_pos h
theorem put_two (f : Frm) : f.put[2]? = some (UInt8.ofNat f.kind.toNat) := rfl
theorem put_three (f : Frm) : f.put[3]? = some (UInt8.ofNat f.slot.toNat) := rfl
theorem take_mid (p m q : List UInt8) (k n : Nat) (hp : p.length = k) (hm : m.length = n) : ((p ++ (m ++ q)).drop k).take n = m := by
  subst hp hm
  rw [List.drop_left, List.take_left]
theorem put_parts (f : Frm) (hl : f.data.length = 108) : (f.put.drop 4).take 4 = leB 4 f.stripe.toNat ∧ (f.put.drop 8).take 8 = leB 8 f.gen.toNat ∧ (f.put.drop 16).take 108 = f.data ∧ f.put.take 124 = f.head ∧ f.put.drop 124 = leB 4 (on 0#32 f.head).toNat := by
  have hh : f.head.length = 124 := by simp [Frm.head, leB_len, hl]
  refine ⟨?_, ?_, ?_, ?_, ?_⟩
  · have e : f.put = [83, 84, UInt8.ofNat f.kind.toNat, UInt8.ofNat f.slot.toNat] ++ (leB 4 f.stripe.toNat ++ (leB 8 f.gen.toNat ++ (f.data ++ leB 4 (on 0#32 f.head).toNat))) := by simp [Frm.put, Frm.head]
    rw [e]
    exact take_mid _ _ _ 4 4 rfl (leB_len _ _)
  · have e : f.put = ([83, 84, UInt8.ofNat f.kind.toNat, UInt8.ofNat f.slot.toNat] ++ leB 4 f.stripe.toNat) ++ (leB 8 f.gen.toNat ++ (f.data ++ leB 4 (on 0#32 f.head).toNat)) := by simp [Frm.put, Frm.head]
    rw [e]
    exact take_mid _ _ _ 8 8 (by simp [leB_len]) (leB_len _ _)
  · have e : f.put = ([83, 84, UInt8.ofNat f.kind.toNat, UInt8.ofNat f.slot.toNat] ++ leB 4 f.stripe.toNat ++ leB 8 f.gen.toNat) ++ (f.data ++ leB 4 (on 0#32 f.head).toNat) := by simp [Frm.put, Frm.head]
    rw [e]
    exact take_mid _ _ _ 16 108 (by simp [leB_len]) hl
  · show (f.head ++ _).take 124 = _
    rw [← hh, List.take_left]
  · show (f.head ++ _).drop 124 = _
    rw [← hh, List.drop_left]
theorem frmOf_put {f : Frm} (hl : f.data.length = 108) (hr : f.right = true) : frmOf f.put = f := by
  obtain ⟨⟨k0, k1⟩, ⟨s0, s1⟩, ⟨t0, t1⟩, ⟨g0, g1⟩⟩ := (right_iff f).1 hr
  obtain ⟨p1, p2, p3, _, _⟩ := put_parts f hl
  unfold frmOf
  rw [put_two, put_three, p1, p2, p3, leN_leB, leN_leB]
  have e1 : w8 ((some (UInt8.ofNat f.kind.toNat)).getD 0) = f.kind := w8_ofInt f.kind (by omega) (by omega)
  have e2 : w8 ((some (UInt8.ofNat f.slot.toNat)).getD 0) = f.slot := w8_ofInt f.slot (by omega) (by omega)
  have e3 : wrapN (f.stripe.toNat % 256 ^ 4) = f.stripe := by rw [wrapN_small (by omega)]; omega
  have e4 : wrapN (f.gen.toNat % 256 ^ 8) = f.gen := by rw [wrapN_small (by omega)]; omega
  rw [e1, e2, e3, e4]
theorem got_put {f : Frm} (hl : f.data.length = 108) (hr : f.right = true) : got f.put = true := by
  unfold got
  rw [frmOf_put hl hr, hr, put_len hl]
  simp
theorem gotF_put {f : Frm} (hl : f.data.length = 108) (hr : f.right = true) : gotF f.put = f := by
  rw [gotF_yes (got_put hl hr), frmOf_put hl hr]
theorem got_parts {l : List UInt8} (h : got l = true) : l.length = 128 ∧ (frmOf l).right = true ∧ (frmOf l).put = l := by
  unfold got at h
  simp at h
  exact h
theorem ofNat_w8 (b : UInt8) : UInt8.ofNat (w8 b).toNat = b := by
  apply UInt8.toNat_inj.1
  have := b.toNat_lt
  unfold w8
  rw [UInt8.toNat_ofNat']
  omega
theorem magic_put (f : Frm) : leN (f.put.take 2) = 21587 := by
  have e : f.put.take 2 = [83, 84] := by simp [Frm.put, Frm.head]
  rw [e]
  decide
theorem drop_four (a b c d : UInt8) (r : List UInt8) (k : Nat) : (a :: b :: c :: d :: r).drop (k + 4) = r.drop k := by simp
theorem take_four (a b c d : UInt8) (r : List UInt8) (k : Nat) : (a :: b :: c :: d :: r).take (k + 4) = a :: b :: c :: d :: r.take k := by simp
/-- the document's own test -/
def refGot (l : List UInt8) : Bool := decide (l.length = 128) && (decide (leN (l.take 2) = 21587) && (decide (((on 0#32 (l.take 124)).toNat : Nat) = leN (l.drop 124)) && (frmOf l).right))
theorem refGot_got (l : List UInt8) : refGot l = got l := by
  rw [Bool.eq_iff_iff]
  constructor
  · intro h
    unfold refGot at h
    simp only [Bool.and_eq_true, decide_eq_true_eq] at h
    obtain ⟨hl, hm, hc, hr⟩ := h
    unfold got
    simp only [Bool.and_eq_true, decide_eq_true_eq]
    refine ⟨hl, hr, ?_⟩
    obtain ⟨x0, x1, x2, x3, r, rfl⟩ : ∃ x0 x1 x2 x3 r, l = x0 :: x1 :: x2 :: x3 :: r := by
      match l, hl with
      | x0 :: x1 :: x2 :: x3 :: r, _ => exact ⟨x0, x1, x2, x3, r, rfl⟩
    have hrl : r.length = 124 := by simpa using hl
    have hg := ((right_iff _).1 hr).2.2.2
    have hs := ((right_iff _).1 hr).2.2.1
    have hm' : x0.toNat + 256 * x1.toNat = 21587 := by simpa [leN] using hm
    have b0 := x0.toNat_lt
    have b1 := x1.toNat_lt
    have e0 : x0 = 83 := UInt8.toNat_inj.1 (show x0.toNat = 83 by omega)
    have e1 : x1 = 84 := UInt8.toNat_inj.1 (show x1.toNat = 84 by omega)
    subst e0 e1
    have hr1 : r = r.take 4 ++ ((r.drop 4).take 8 ++ ((r.drop 12).take 108 ++ r.drop 120)) := by
      have d1 : (r.drop 12).take 108 ++ r.drop 120 = r.drop 12 := by
        have := List.take_append_drop 108 (r.drop 12)
        rwa [List.drop_drop] at this
      have d2 : (r.drop 4).take 8 ++ r.drop 12 = r.drop 4 := by
        have := List.take_append_drop 8 (r.drop 4)
        rwa [List.drop_drop] at this
      rw [d1, d2, List.take_append_drop]
    have l1 : (r.take 4).length = 4 := by rw [List.length_take]; omega
    have l2 : ((r.drop 4).take 8).length = 8 := by rw [List.length_take, List.length_drop]; omega
    have l4 : (r.drop 120).length = 4 := by rw [List.length_drop]; omega
    have q1 := leB_leN (r.take 4)
    have q2 := leB_leN ((r.drop 4).take 8)
    have q4 := leB_leN (r.drop 120)
    have n1 := leN_lt (r.take 4)
    have n2 := leN_lt ((r.drop 4).take 8)
    rw [l1] at q1 n1
    rw [l2] at q2 n2
    rw [l4] at q4
    have eF : frmOf (83 :: 84 :: x2 :: x3 :: r) = ⟨w8 x2, w8 x3, wrapN (leN (r.take 4)), wrapN (leN ((r.drop 4).take 8)), (r.drop 12).take 108⟩ := by
      unfold frmOf
      rw [show (4 : Nat) = 0 + 4 from rfl, show (8 : Nat) = 4 + 4 from rfl, show (16 : Nat) = 12 + 4 from rfl, drop_four, drop_four, drop_four]
      rfl
    rw [eF] at hg hs ⊢
    have hg' : 0 ≤ wrapN (leN ((r.drop 4).take 8)) := hg.1
    have s1 : (wrapN (leN (r.take 4))).toNat = leN (r.take 4) := by rw [wrapN_small (by omega)]; omega
    have s2 : (wrapN (leN ((r.drop 4).take 8))).toNat = leN ((r.drop 4).take 8) := by
      unfold wrapN at hg' ⊢
      split
      · omega
      · rename_i hh
        rw [if_neg hh] at hg'
        omega
    have hhd : Frm.head ⟨w8 x2, w8 x3, wrapN (leN (r.take 4)), wrapN (leN ((r.drop 4).take 8)), (r.drop 12).take 108⟩ = 83 :: 84 :: x2 :: x3 :: r.take 120 := by
      show 83 :: 84 :: UInt8.ofNat (w8 x2).toNat :: UInt8.ofNat (w8 x3).toNat :: (leB 4 (wrapN (leN (r.take 4))).toNat ++ (leB 8 (wrapN (leN ((r.drop 4).take 8))).toNat ++ (r.drop 12).take 108)) = _
      rw [ofNat_w8, ofNat_w8, s1, s2, q1, q2]
      congr 4
      have h12 : (r.drop 4).take 8 ++ (r.drop 12).take 108 = (r.drop 4).take 116 := by
        have := (List.take_add (l := r.drop 4) (i := 8) (j := 108)).symm
        rwa [List.drop_drop] at this
      rw [h12]
      exact (List.take_add (l := r) (i := 4) (j := 116)).symm
    unfold Frm.put
    rw [hhd]
    have hc' : (on 0#32 (83 :: 84 :: x2 :: x3 :: r.take 120)).toNat = leN (r.drop 120) := by rw [← take_four, ← drop_four 83 84 x2 x3]; exact hc
    rw [hc', q4]
    show 83 :: 84 :: x2 :: x3 :: (r.take 120 ++ r.drop 120) = _
    rw [List.take_append_drop]
  · intro h
    obtain ⟨hl, hr, hp⟩ := got_parts h
    have hd := frmOf_len l hl
    obtain ⟨_, _, _, p4, p5⟩ := put_parts (frmOf l) hd
    rw [hp] at p4 p5
    unfold refGot
    simp only [Bool.and_eq_true, decide_eq_true_eq]
    refine ⟨hl, ?_, ?_, hr⟩
    · rw [← hp]
      exact magic_put _
    · rw [p4, p5, leN_leB]
      have := (on 0#32 (frmOf l).head).isLt
      omega
end Go.Proofs.Ytcggnphoekmoaaa
