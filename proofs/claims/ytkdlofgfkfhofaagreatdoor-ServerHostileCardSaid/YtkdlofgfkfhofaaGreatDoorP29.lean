import Derived.Test.YtkdlofgfkfhofaaGreatDoorP28
import Derived.Test.YtkdlofgfkfhofaaGreatDoorP20
import Derived.Test.YtkdlofgfkfhofaaGreatDoorP01
/-
  entry: Get.
-/
namespace Go.Proofs.YtkdlofgfkfhofaaGreatDoor
open Go.RowKit
attribute [local go_sem ↓] ldB_eq stB_eq ldE_eq stE_eq sliced_past
attribute [local go_sem] pastA_zero pastA_some w8_nn w8_256 wrap_i64_w8 wrap64_w8

/-- what Get hands back -/
def GetEr (l : List UInt8) (w' : World) (x : Ent) (A : Option Addr) (n c : Nat) (v : Value) : Prop :=
  RdT w' A n c x.bat.vals ∧ ((v = .nilIface ∧ getE l = .ok x) ∨ (x = noE ∧ ∃ d k, d ≤ 1 ∧ IsErr (d + 1) v k ∧ getE l = .error k))
theorem eq_nil_slice (w : World) (a : Option Addr) (n c n' c' : Nat) : (binOp .eql 123 (.slice a n c) (.slice none n' c')).run Tryz.prog w = .ok (.bool a.isNone) w := Lib.run_eql_slice_nil w _ _ a n c n' c' Tryz.underlying123
theorem getE_err {b : UInt8} {r : List UInt8} {k : Int} (hk : 1 ≤ w8 b ∧ w8 b ≤ 5) (h : getAll (fldsE (w8 b)) r = .error k) : getE (b :: r) = .error k := by
  show getE1 b r = _
  unfold getE1
  rw [if_neg (by omega), h]
theorem getE_vals {b : UInt8} {r : List UInt8} {vs : List Val} (hk : 1 ≤ w8 b ∧ w8 b ≤ 5) (h : getAll (fldsE (w8 b)) r = .ok vs) : getE (b :: r) = if (badE (w8 b) vs).isNone = true ∧ rightE (madeE (w8 b) vs) = true then .ok (madeE (w8 b) vs) else .error 2 := by
  show getE1 b r = _
  unfold getE1
  rw [if_neg (by omega), h]
end Go.Proofs.YtkdlofgfkfhofaaGreatDoor

/-
  Asks as plain records: what ask.Right, Put and Get compute, and its laws.
-/
namespace Go.Proofs.YtkdlofgfkfhofaaGreatDoor
open Go.RowKit

/-- an ask -/
structure Ask where
  corr : Int
  kind : Int
  topic : ByteArray
  group : ByteArray
  part : Int
  parts : Int
  first : Int
  off : Int
  most : Int
  time : Int
  bat : Bat
def noA : Ask := ⟨0, 0, nul, nul, 0, 0, 0, 0, 0, 0, noB⟩
def Ask.ent (a : Ask) : Ent := ⟨a.kind, a.topic, a.group, a.part, a.parts, a.first, a.off, a.bat⟩
/-- an ask of an entry -/
def ofE (e : Ent) : Ask := ⟨0, e.kind, e.topic, e.group, e.part, e.parts, e.first, e.off, 0, 0, e.bat⟩
def Ask.num (a : Ask) (c : Int) : Ask := ⟨c, a.kind, a.topic, a.group, a.part, a.parts, a.first, a.off, a.most, a.time, a.bat⟩
def mostF : Fld := nF 4 0 1048576
def timeF : Fld := nF 8 0 1125899906842624
def fldsA (k : Int) : List Fld := if k = 7 then [nameF, partF, offF, mostF] else if k = 8 then [nameF, partF, timeF] else if k = 9 then [nameF, nameF, partF] else []
def readK (k : Int) : Bool := decide (k = 6) || decide (k = 7) || decide (k = 8) || decide (k = 9)
def writK (k : Int) : Bool := decide (k = 1) || decide (k = 2) || decide (k = 3) || decide (k = 4) || decide (k = 5)
def valsA (a : Ask) : List Val := if a.kind = 7 then [sV a.topic, nV a.part, nV a.off, nV a.most] else if a.kind = 8 then [sV a.topic, nV a.part, nV a.time] else if a.kind = 9 then [sV a.group, sV a.topic, nV a.part] else []
def madeA (k : Int) (vs : List Val) : Ask :=
  if k = 7 then ⟨0, k, (v0 vs 0).s, nul, (v0 vs 1).n, 0, 0, (v0 vs 2).n, (v0 vs 3).n, 0, noB⟩ else if k = 8 then ⟨0, k, (v0 vs 0).s, nul, (v0 vs 1).n, 0, 0, 0, 0, (v0 vs 2).n, noB⟩
  else if k = 9 then ⟨0, k, (v0 vs 1).s, (v0 vs 0).s, (v0 vs 2).n, 0, 0, 0, 0, 0, noB⟩ else ⟨0, k, nul, nul, 0, 0, 0, 0, 0, 0, noB⟩
def bareA (a : Ask) : Bool := decide (a.parts = 0) && decide (a.first = 0) && decide (a.bat.time = 0) && decide (a.bat.prod = 0) && decide (a.bat.seq = 0) && decide (a.bat.vals = [])
def sameA (x a : Ask) : Bool := decide (x.topic = a.topic) && decide (x.group = a.group) && decide (x.part = a.part) && decide (x.off = a.off) && decide (x.most = a.most) && decide (x.time = a.time)
def readsA (a : Ask) : Bool :=
  readK a.kind && (okAll (fldsA a.kind) (valsA a) && (bareA a && (sameA (madeA a.kind (valsA a)) a && ((decide (a.kind = 6) || nameOk a.topic) && (decide (a.kind ≠ 9) || nameOk a.group)))))
def rightA (a : Ask) : Bool :=
  decide (0 ≤ a.corr) && (decide (a.corr ≤ 4294967295) && (if writK a.kind then decide (a.most = 0) && (decide (a.time = 0) && rightE a.ent) else readsA a))
def headA (k c : Int) : List UInt8 := [1, UInt8.ofNat k.toNat, byteAt c.toNat 0, byteAt c.toNat 1, byteAt c.toNat 2, byteAt c.toNat 3]
def restA (a : Ask) : List UInt8 := if writK a.kind then (putE a.ent).drop 1 else bytesAll (fldsA a.kind) (valsA a)
def putA (a : Ask) : List UInt8 := if rightA a then headA a.kind a.corr ++ restA a else []
def corr4 (c0 c1 c2 c3 : UInt8) : Int := w8 c0 + 256 * w8 c1 + 65536 * w8 c2 + 16777216 * w8 c3
def bodyA (k : UInt8) (r : List UInt8) : Except Int Ask :=
  if writK (w8 k) = true then (match getE (k :: r) with | .ok e => .ok (ofE e) | .error c => .error c)
  else if readK (w8 k) = true then (match getAll (fldsA (w8 k)) r with | .ok vs => .ok (madeA (w8 k) vs) | .error c => .error c)
  else .error 2
def getA6 (v k c0 c1 c2 c3 : UInt8) (r : List UInt8) : Except (Int × Int) Ask :=
  if w8 v = 1 then (match bodyA k r with
    | .ok a => if rightA (a.num (corr4 c0 c1 c2 c3)) = true then .ok (a.num (corr4 c0 c1 c2 c3)) else .error (corr4 c0 c1 c2 c3, 2)
    | .error e => .error (corr4 c0 c1 c2 c3, e))
  else .error (corr4 c0 c1 c2 c3, 14)
def getA : List UInt8 → Except (Int × Int) Ask
  | v :: k :: c0 :: c1 :: c2 :: c3 :: r => getA6 v k c0 c1 c2 c3 r
  | _ => .error (0, 3)

theorem writ_iff {k : Int} : writK k = true ↔ 1 ≤ k ∧ k ≤ 5 := by
  unfold writK
  simp only [Bool.or_eq_true, decide_eq_true_eq]
  omega
theorem read_iff {k : Int} : readK k = true ↔ 6 ≤ k ∧ k ≤ 9 := by
  unfold readK
  simp only [Bool.or_eq_true, decide_eq_true_eq]
  omega
theorem good_most : GoodF mostF := good_num (by decide) (by decide) (by decide) (by decide)
theorem good_time : GoodF timeF := good_num (by decide) (by decide) (by decide) (by decide)
theorem good_A (k : Int) : ∀ f ∈ fldsA k, GoodF f := by
  intro f hf
  unfold fldsA at hf
  split at hf
  · simp only [List.mem_cons, List.not_mem_nil, or_false] at hf
    rcases hf with rfl | rfl | rfl | rfl
    · exact good_name
    · exact good_part
    · exact good_off
    · exact good_most
  · split at hf
    · simp only [List.mem_cons, List.not_mem_nil, or_false] at hf
      rcases hf with rfl | rfl | rfl
      · exact good_name
      · exact good_part
      · exact good_time
    · split at hf
      · simp only [List.mem_cons, List.not_mem_nil, or_false] at hf
        rcases hf with rfl | rfl | rfl
        · exact good_name
        · exact good_name
        · exact good_part
      · cases hf
/-- what is right: its number, and its kind's part -/
theorem rightA_facts {a : Ask} (h : rightA a = true) : (0 ≤ a.corr ∧ a.corr ≤ 4294967295) ∧ ((writK a.kind = true ∧ a.most = 0 ∧ a.time = 0 ∧ rightE a.ent = true) ∨ (writK a.kind = false ∧ readsA a = true)) := by
  unfold rightA at h
  simp only [Bool.and_eq_true, decide_eq_true_eq] at h
  obtain ⟨h1, h2, h3⟩ := h
  refine ⟨⟨h1, h2⟩, ?_⟩
  cases hw : writK a.kind
  · rw [hw, if_neg (by decide)] at h3
    exact .inr ⟨rfl, h3⟩
  · rw [hw, if_pos rfl] at h3
    simp only [Bool.and_eq_true, decide_eq_true_eq] at h3
    exact .inl ⟨rfl, h3.1, h3.2.1, h3.2.2⟩
theorem reads_facts {a : Ask} (h : readsA a = true) : readK a.kind = true ∧ okAll (fldsA a.kind) (valsA a) = true ∧ bareA a = true ∧ sameA (madeA a.kind (valsA a)) a = true ∧ (a.kind = 6 ∨ nameOk a.topic = true) ∧ (a.kind ≠ 9 ∨ nameOk a.group = true) := by
  unfold readsA at h
  simp only [Bool.and_eq_true, Bool.or_eq_true, decide_eq_true_eq] at h
  exact h
theorem read_cases {k : Int} (h : readK k = true) : k = 6 ∨ k = 7 ∨ k = 8 ∨ k = 9 := by
  have := read_iff.1 h
  omega
/-- what is made of a right ask's values is it, but for its number -/
theorem made_back {a : Ask} (h : readsA a = true) : (madeA a.kind (valsA a)).num a.corr = a := by
  obtain ⟨hk, _, hb, hs, _⟩ := reads_facts h
  obtain ⟨c, k, t, g, p, ps, f, o, m, ti, b1, b2, b3, bl⟩ := a
  simp only [bareA, sameA, Bool.and_eq_true, decide_eq_true_eq] at hb hs
  obtain ⟨⟨⟨⟨⟨rfl, rfl⟩, rfl⟩, rfl⟩, rfl⟩, rfl⟩ := hb
  obtain ⟨⟨⟨⟨⟨h1, h2⟩, h3⟩, h4⟩, h5⟩, h6⟩ := hs
  have hk' : k = 6 ∨ k = 7 ∨ k = 8 ∨ k = 9 := read_cases hk
  rcases hk' with rfl | rfl | rfl | rfl
  · change nul = t at h1; change nul = g at h2; change (0 : Int) = p at h3; change (0 : Int) = o at h4; change (0 : Int) = m at h5; change (0 : Int) = ti at h6
    subst h1 h2 h3 h4 h5 h6
    rfl
  · change nul = g at h2; change (0 : Int) = ti at h6
    subst h2 h6
    rfl
  · change nul = g at h2; change (0 : Int) = o at h4; change (0 : Int) = m at h5
    subst h2 h4 h5
    rfl
  · change (0 : Int) = o at h4; change (0 : Int) = m at h5; change (0 : Int) = ti at h6
    subst h4 h5 h6
    rfl
theorem made_valsA {k : Int} (hk : readK k = true) {vs : List Val} (h : okAll (fldsA k) vs = true) : (madeA k vs).kind = k ∧ valsA (madeA k vs) = vs := by
  rcases read_cases hk with rfl | rfl | rfl | rfl
  · obtain rfl := okAll_nil (vs := vs) h
    exact ⟨rfl, rfl⟩
  · obtain ⟨x0, r0, rfl, f0, h⟩ := okAll_cons (f := nameF) (fs := [partF, offF, mostF]) h
    obtain ⟨x1, r1, rfl, f1, h⟩ := okAll_cons h
    obtain ⟨x2, r2, rfl, f2, h⟩ := okAll_cons h
    obtain ⟨x3, r3, rfl, f3, h⟩ := okAll_cons h
    obtain rfl := okAll_nil h
    obtain ⟨n0, rfl, _⟩ := fits_text rfl f0
    obtain ⟨n1, rfl, _⟩ := fits_num rfl f1
    obtain ⟨n2, rfl, _⟩ := fits_num rfl f2
    obtain ⟨n3, rfl, _⟩ := fits_num rfl f3
    exact ⟨rfl, rfl⟩
  · obtain ⟨x0, r0, rfl, f0, h⟩ := okAll_cons (f := nameF) (fs := [partF, timeF]) h
    obtain ⟨x1, r1, rfl, f1, h⟩ := okAll_cons h
    obtain ⟨x2, r2, rfl, f2, h⟩ := okAll_cons h
    obtain rfl := okAll_nil h
    obtain ⟨n0, rfl, _⟩ := fits_text rfl f0
    obtain ⟨n1, rfl, _⟩ := fits_num rfl f1
    obtain ⟨n2, rfl, _⟩ := fits_num rfl f2
    exact ⟨rfl, rfl⟩
  · obtain ⟨x0, r0, rfl, f0, h⟩ := okAll_cons (f := nameF) (fs := [nameF, partF]) h
    obtain ⟨x1, r1, rfl, f1, h⟩ := okAll_cons h
    obtain ⟨x2, r2, rfl, f2, h⟩ := okAll_cons h
    obtain rfl := okAll_nil h
    obtain ⟨n0, rfl, _⟩ := fits_text rfl f0
    obtain ⟨n1, rfl, _⟩ := fits_text rfl f1
    obtain ⟨n2, rfl, _⟩ := fits_num rfl f2
    exact ⟨rfl, rfl⟩
theorem right_kindA {a : Ask} (h : rightA a = true) : 1 ≤ a.kind ∧ a.kind ≤ 9 := by
  obtain ⟨_, ⟨h1, _⟩ | ⟨_, h1⟩⟩ := rightA_facts h
  · have := writ_iff.1 h1
    omega
  · have := read_iff.1 (reads_facts h1).1
    omega
theorem w8_kindA {k : Int} (h : 1 ≤ k ∧ k ≤ 9) : w8 (UInt8.ofNat k.toNat) = k := by
  unfold w8
  rw [UInt8.toNat_ofNat']
  omega
theorem corr4_put {c : Int} (h : 0 ≤ c ∧ c ≤ 4294967295) : corr4 (byteAt c.toNat 0) (byteAt c.toNat 1) (byteAt c.toNat 2) (byteAt c.toNat 3) = c := by
  obtain ⟨n, rfl⟩ := Int.eq_ofNat_of_zero_le h.1
  unfold corr4
  rw [Int.toNat_natCast, ← byteAt_w8, ← byteAt_w8, ← byteAt_w8, ← byteAt_w8]
  simp only [Nat.reduceMul, Nat.mul_zero, Nat.mul_one, Int.reducePow, Int.pow_zero]
  omega
theorem corr4_bytes (c0 c1 c2 c3 : UInt8) : (0 ≤ corr4 c0 c1 c2 c3 ∧ corr4 c0 c1 c2 c3 ≤ 4294967295) ∧ byteAt (corr4 c0 c1 c2 c3).toNat 0 = c0 ∧ byteAt (corr4 c0 c1 c2 c3).toNat 1 = c1 ∧ byteAt (corr4 c0 c1 c2 c3).toNat 2 = c2 ∧ byteAt (corr4 c0 c1 c2 c3).toNat 3 = c3 := by
  have h0 := w8_lt c0
  have h1 := w8_lt c1
  have h2 := w8_lt c2
  have h3 := w8_lt c3
  have hr : 0 ≤ corr4 c0 c1 c2 c3 ∧ corr4 c0 c1 c2 c3 ≤ 4294967295 := by unfold corr4; omega
  refine ⟨hr, ?_, ?_, ?_, ?_⟩ <;> (apply w8_inj; rw [← byteAt_w8, Int.toNat_of_nonneg hr.1]; unfold corr4; simp only [Nat.reduceMul, Nat.mul_zero, Nat.mul_one, Int.reducePow, Int.pow_zero]; omega)
/-- the entry of an ask that writes, from its byte and the rest -/
theorem ent_back {a : Ask} (h : rightE a.ent = true) : UInt8.ofNat a.kind.toNat :: (putE a.ent).drop 1 = putE a.ent := by
  rw [putE_eq h]
  rfl
theorem body_put {a : Ask} (h : rightA a = true) : ∃ b, bodyA (UInt8.ofNat a.kind.toNat) (restA a) = .ok b ∧ b.num a.corr = a := by
  obtain ⟨_, ⟨hw, hm, ht, hr⟩ | ⟨hw, hr⟩⟩ := rightA_facts h
  · refine ⟨ofE a.ent, ?_, ?_⟩
    · unfold bodyA restA
      rw [w8_kindA (right_kindA h), if_pos hw, if_pos hw, ent_back hr, getE_put hr]
    · obtain ⟨c, k, t, g, p, ps, f, o, m, ti, b⟩ := a
      subst hm ht
      rfl
  · obtain ⟨h1, h2, _⟩ := reads_facts hr
    refine ⟨madeA a.kind (valsA a), ?_, made_back hr⟩
    unfold bodyA restA
    rw [w8_kindA (right_kindA h), hw, if_neg (by decide), if_pos h1, if_neg (by decide), getAll_put _ _ (good_A _) h2]
theorem getA_put {a : Ask} (h : rightA a = true) : getA (putA a) = .ok a := by
  unfold putA
  rw [if_pos h]
  show getA6 1 (UInt8.ofNat a.kind.toNat) (byteAt a.corr.toNat 0) (byteAt a.corr.toNat 1) (byteAt a.corr.toNat 2) (byteAt a.corr.toNat 3) (restA a) = _
  obtain ⟨b, hb, hn⟩ := body_put h
  unfold getA6
  rw [if_pos (by rfl), hb, corr4_put (rightA_facts h).1]
  simp only [hn, h, if_true]
theorem putA_eq {a : Ask} (h : rightA a = true) : putA a = headA a.kind a.corr ++ restA a := by unfold putA; rw [if_pos h]
theorem putA_no {a : Ask} (h : rightA a = false) : putA a = [] := by unfold putA; rw [if_neg (by rw [h]; decide)]
theorem getA_short {l : List UInt8} (h : l.length < 6) : getA l = .error (0, 3) := by
  match l, h with
  | [], _ => rfl
  | [_], _ => rfl
  | [_, _], _ => rfl
  | [_, _, _], _ => rfl
  | [_, _, _, _], _ => rfl
  | [_, _, _, _, _], _ => rfl
  | _ :: _ :: _ :: _ :: _ :: _ :: _, h => exact absurd h (by simp)
theorem getA_inv {l : List UInt8} {a : Ask} (h : getA l = .ok a) : rightA a = true ∧ putA a = l := by
  match l, h with
  | v :: k :: c0 :: c1 :: c2 :: c3 :: r, h =>
    change getA6 v k c0 c1 c2 c3 r = .ok a at h
    unfold getA6 at h
    split at h
    · rename_i hv
      split at h
      · rename_i b hb
        split at h
        · rename_i hr
          injection h with h
          subst h
          refine ⟨hr, ?_⟩
          obtain ⟨_, q0, q1, q2, q3⟩ := corr4_bytes c0 c1 c2 c3
          rw [putA_eq hr]
          have hv1 : v = 1 := w8_inj (by rw [hv]; rfl)
          subst hv1
          have hkr := right_kindA hr
          have hw8 : UInt8.ofNat b.kind.toNat = k ∧ restA (b.num (corr4 c0 c1 c2 c3)) = r := by
            unfold bodyA at hb
            split at hb
            · rename_i hw
              split at hb
              · rename_i e he
                injection hb with hb
                subst hb
                obtain ⟨p1, p2, u, r', p3, p4⟩ := getE_inv he
                injection p3 with p3 p3'
                subst p3 p3'
                have hkk : w8 k = e.kind := p4
                refine ⟨w8_inj (by rw [hkk]; exact w8_kindA hkr), ?_⟩
                unfold restA
                rw [if_pos (show writK ((ofE e).num (corr4 c0 c1 c2 c3)).kind = true from (show writK e.kind = true by rw [← hkk]; exact hw))]
                show (putE e).drop 1 = r
                rw [p2]
                rfl
              · cases hb
            · rename_i hw
              split at hb
              · rename_i hrd
                split at hb
                · rename_i vs hvs
                  injection hb with hb
                  obtain ⟨a1, a2⟩ := getAll_inv _ _ _ (good_A _) hvs
                  obtain ⟨m1, m2⟩ := made_valsA hrd a1
                  have hbk : b.kind = w8 k := by rw [← hb]; exact m1
                  refine ⟨w8_inj (by rw [← hbk]; exact w8_kindA hkr), ?_⟩
                  unfold restA
                  rw [if_neg (show ¬ writK (b.num (corr4 c0 c1 c2 c3)).kind = true from (show ¬ writK b.kind = true by rw [hbk]; exact hw))]
                  show bytesAll (fldsA b.kind) (valsA b) = r
                  rw [hbk, ← hb, m2, a2]
                · cases hb
              · cases hb
          show 1 :: UInt8.ofNat b.kind.toNat :: byteAt (corr4 c0 c1 c2 c3).toNat 0 :: byteAt (corr4 c0 c1 c2 c3).toNat 1 :: byteAt (corr4 c0 c1 c2 c3).toNat 2 :: byteAt (corr4 c0 c1 c2 c3).toNat 3 :: restA (b.num (corr4 c0 c1 c2 c3)) = _
          rw [q0, q1, q2, q3, hw8.1, hw8.2]
        · cases h
      · cases h
    · cases h
end Go.Proofs.YtkdlofgfkfhofaaGreatDoor
