import Derived.Test.YtpfdbbcfcimmfaaGreatDoorEEnt
import Derived.Test.YtpfdbbcfcimmfaaGreatDoorLe
import Derived.Test.YtpfdbbcfcimmfaaGreatDoorEGetW
import Derived.Deep.CutRange
import Derived.Deep.RegionHeld3
import Derived.Test.YtpfdbbcfcimmfaaGreatDoorEMades
import Derived.Test.YtpfdbbcfcimmfaaGreatDoorERightW
import Derived.Test.YtpfdbbcfcimmfaaGreatDoorEPutW
import Derived.Deep.QuietTactic
import Derived.BigQuiet
/-
  Asks as plain records: what ask.Right, Put and Get compute, and its laws.
-/
namespace Go.Proofs.YtpfdbbcfcimmfaaGreatDoor
open Go.RowKit

/-- an ask -/
structure Ask where
  corr : Int
  kind : Int
  topic : ByteArray
  group : ByteArray
  part : Int
  parts : Int
  first : Int
  off : Int
  most : Int
  time : Int
  bat : Bat
def noA : Ask := ⟨0, 0, nul, nul, 0, 0, 0, 0, 0, 0, noB⟩
def Ask.ent (a : Ask) : Ent := ⟨a.kind, a.topic, a.group, a.part, a.parts, a.first, a.off, a.bat⟩
/-- an ask of an entry -/
def ofE (e : Ent) : Ask := ⟨0, e.kind, e.topic, e.group, e.part, e.parts, e.first, e.off, 0, 0, e.bat⟩
def Ask.num (a : Ask) (c : Int) : Ask := ⟨c, a.kind, a.topic, a.group, a.part, a.parts, a.first, a.off, a.most, a.time, a.bat⟩
def mostF : Fld := nF 4 0 1048576
def timeF : Fld := nF 8 0 1125899906842624
def fldsA (k : Int) : List Fld := if k = 7 then [nameF, partF, offF, mostF] else if k = 8 then [nameF, partF, timeF] else if k = 9 then [nameF, nameF, partF] else []
def readK (k : Int) : Bool := decide (k = 6) || decide (k = 7) || decide (k = 8) || decide (k = 9)
def writK (k : Int) : Bool := decide (k = 1) || decide (k = 2) || decide (k = 3) || decide (k = 4) || decide (k = 5)
def valsA (a : Ask) : List Val := if a.kind = 7 then [sV a.topic, nV a.part, nV a.off, nV a.most] else if a.kind = 8 then [sV a.topic, nV a.part, nV a.time] else if a.kind = 9 then [sV a.group, sV a.topic, nV a.part] else []
def madeA (k : Int) (vs : List Val) : Ask :=
  if k = 7 then ⟨0, k, (v0 vs 0).s, nul, (v0 vs 1).n, 0, 0, (v0 vs 2).n, (v0 vs 3).n, 0, noB⟩ else if k = 8 then ⟨0, k, (v0 vs 0).s, nul, (v0 vs 1).n, 0, 0, 0, 0, (v0 vs 2).n, noB⟩
  else if k = 9 then ⟨0, k, (v0 vs 1).s, (v0 vs 0).s, (v0 vs 2).n, 0, 0, 0, 0, 0, noB⟩ else ⟨0, k, nul, nul, 0, 0, 0, 0, 0, 0, noB⟩
def bareA (a : Ask) : Bool := decide (a.parts = 0) && decide (a.first = 0) && decide (a.bat.time = 0) && decide (a.bat.prod = 0) && decide (a.bat.seq = 0) && decide (a.bat.vals = [])
def sameA (x a : Ask) : Bool := decide (x.topic = a.topic) && decide (x.group = a.group) && decide (x.part = a.part) && decide (x.off = a.off) && decide (x.most = a.most) && decide (x.time = a.time)
def readsA (a : Ask) : Bool :=
  readK a.kind && (okAll (fldsA a.kind) (valsA a) && (bareA a && (sameA (madeA a.kind (valsA a)) a && ((decide (a.kind = 6) || nameOk a.topic) && (decide (a.kind ≠ 9) || nameOk a.group)))))
def rightA (a : Ask) : Bool :=
  decide (0 ≤ a.corr) && (decide (a.corr ≤ 4294967295) && (if writK a.kind then decide (a.most = 0) && (decide (a.time = 0) && rightE a.ent) else readsA a))
def headA (k c : Int) : List UInt8 := [1, UInt8.ofNat k.toNat, byteAt c.toNat 0, byteAt c.toNat 1, byteAt c.toNat 2, byteAt c.toNat 3]
def restA (a : Ask) : List UInt8 := if writK a.kind then (putE a.ent).drop 1 else bytesAll (fldsA a.kind) (valsA a)
def putA (a : Ask) : List UInt8 := if rightA a then headA a.kind a.corr ++ restA a else []
def corr4 (c0 c1 c2 c3 : UInt8) : Int := w8 c0 + 256 * w8 c1 + 65536 * w8 c2 + 16777216 * w8 c3
def bodyA (k : UInt8) (r : List UInt8) : Except Int Ask :=
  if writK (w8 k) = true then (match getE (k :: r) with | .ok e => .ok (ofE e) | .error c => .error c)
  else if readK (w8 k) = true then (match getAll (fldsA (w8 k)) r with | .ok vs => .ok (madeA (w8 k) vs) | .error c => .error c)
  else .error 2
def getA6 (v k c0 c1 c2 c3 : UInt8) (r : List UInt8) : Except (Int × Int) Ask :=
  if w8 v = 1 then (match bodyA k r with
    | .ok a => if rightA (a.num (corr4 c0 c1 c2 c3)) = true then .ok (a.num (corr4 c0 c1 c2 c3)) else .error (corr4 c0 c1 c2 c3, 2)
    | .error e => .error (corr4 c0 c1 c2 c3, e))
  else .error (corr4 c0 c1 c2 c3, 14)
def getA : List UInt8 → Except (Int × Int) Ask
  | v :: k :: c0 :: c1 :: c2 :: c3 :: r => getA6 v k c0 c1 c2 c3 r
  | _ => .error (0, 3)

theorem writ_iff {k : Int} : writK k = true ↔ 1 ≤ k ∧ k ≤ 5 := by
  unfold writK
  simp only [Bool.or_eq_true, decide_eq_true_eq]
  omega
theorem read_iff {k : Int} : readK k = true ↔ 6 ≤ k ∧ k ≤ 9 := by
  unfold readK
  simp only [Bool.or_eq_true, decide_eq_true_eq]
  omega
theorem read_writ {k : Int} (h : readK k = true) : writK k = false := by
  have h1 := read_iff.1 h
  cases hw : writK k
  · rfl
  · have h2 := writ_iff.1 hw
    omega
theorem good_most : GoodF mostF := good_num (by decide) (by decide) (by decide) (by decide)
theorem good_time : GoodF timeF := good_num (by decide) (by decide) (by decide) (by decide)
theorem good_A (k : Int) : ∀ f ∈ fldsA k, GoodF f := by
  intro f hf
  unfold fldsA at hf
  split at hf
  · simp only [List.mem_cons, List.not_mem_nil, or_false] at hf
    rcases hf with rfl | rfl | rfl | rfl
    · exact good_name
    · exact good_part
    · exact good_off
    · exact good_most
  · split at hf
    · simp only [List.mem_cons, List.not_mem_nil, or_false] at hf
      rcases hf with rfl | rfl | rfl
      · exact good_name
      · exact good_part
      · exact good_time
    · split at hf
      · simp only [List.mem_cons, List.not_mem_nil, or_false] at hf
        rcases hf with rfl | rfl | rfl
        · exact good_name
        · exact good_name
        · exact good_part
      · cases hf
/-- what is right: its number, and its kind's part -/
theorem rightA_facts {a : Ask} (h : rightA a = true) : (0 ≤ a.corr ∧ a.corr ≤ 4294967295) ∧ ((writK a.kind = true ∧ a.most = 0 ∧ a.time = 0 ∧ rightE a.ent = true) ∨ (writK a.kind = false ∧ readsA a = true)) := by
  unfold rightA at h
  simp only [Bool.and_eq_true, decide_eq_true_eq] at h
  obtain ⟨h1, h2, h3⟩ := h
  refine ⟨⟨h1, h2⟩, ?_⟩
  cases hw : writK a.kind
  · rw [hw, if_neg (by decide)] at h3
    exact .inr ⟨rfl, h3⟩
  · rw [hw, if_pos rfl] at h3
    simp only [Bool.and_eq_true, decide_eq_true_eq] at h3
    exact .inl ⟨rfl, h3.1, h3.2.1, h3.2.2⟩
theorem reads_facts {a : Ask} (h : readsA a = true) : readK a.kind = true ∧ okAll (fldsA a.kind) (valsA a) = true ∧ bareA a = true ∧ sameA (madeA a.kind (valsA a)) a = true ∧ (a.kind = 6 ∨ nameOk a.topic = true) ∧ (a.kind ≠ 9 ∨ nameOk a.group = true) := by
  unfold readsA at h
  simp only [Bool.and_eq_true, Bool.or_eq_true, decide_eq_true_eq] at h
  exact h
theorem read_cases {k : Int} (h : readK k = true) : k = 6 ∨ k = 7 ∨ k = 8 ∨ k = 9 := by
  have := read_iff.1 h
  omega
/-- what is made of a right ask's values is it, but for its number -/
theorem made_back {a : Ask} (h : readsA a = true) : (madeA a.kind (valsA a)).num a.corr = a := by
  obtain ⟨hk, _, hb, hs, _⟩ := reads_facts h
  obtain ⟨c, k, t, g, p, ps, f, o, m, ti, b1, b2, b3, bl⟩ := a
  simp only [bareA, sameA, Bool.and_eq_true, decide_eq_true_eq] at hb hs
  obtain ⟨⟨⟨⟨⟨rfl, rfl⟩, rfl⟩, rfl⟩, rfl⟩, rfl⟩ := hb
  obtain ⟨⟨⟨⟨⟨h1, h2⟩, h3⟩, h4⟩, h5⟩, h6⟩ := hs
  have hk' : k = 6 ∨ k = 7 ∨ k = 8 ∨ k = 9 := read_cases hk
  rcases hk' with rfl | rfl | rfl | rfl
  · change nul = t at h1; change nul = g at h2; change (0 : Int) = p at h3; change (0 : Int) = o at h4; change (0 : Int) = m at h5; change (0 : Int) = ti at h6
    subst h1 h2 h3 h4 h5 h6
    rfl
  · change nul = g at h2; change (0 : Int) = ti at h6
    subst h2 h6
    rfl
  · change nul = g at h2; change (0 : Int) = o at h4; change (0 : Int) = m at h5
    subst h2 h4 h5
    rfl
  · change (0 : Int) = o at h4; change (0 : Int) = m at h5; change (0 : Int) = ti at h6
    subst h4 h5 h6
    rfl
theorem made_valsA {k : Int} (hk : readK k = true) {vs : List Val} (h : okAll (fldsA k) vs = true) : (madeA k vs).kind = k ∧ valsA (madeA k vs) = vs := by
  rcases read_cases hk with rfl | rfl | rfl | rfl
  · obtain rfl := okAll_nil (vs := vs) h
    exact ⟨rfl, rfl⟩
  · obtain ⟨x0, r0, rfl, f0, h⟩ := okAll_cons (f := nameF) (fs := [partF, offF, mostF]) h
    obtain ⟨x1, r1, rfl, f1, h⟩ := okAll_cons h
    obtain ⟨x2, r2, rfl, f2, h⟩ := okAll_cons h
    obtain ⟨x3, r3, rfl, f3, h⟩ := okAll_cons h
    obtain rfl := okAll_nil h
    obtain ⟨n0, rfl, _⟩ := fits_text rfl f0
    obtain ⟨n1, rfl, _⟩ := fits_num rfl f1
    obtain ⟨n2, rfl, _⟩ := fits_num rfl f2
    obtain ⟨n3, rfl, _⟩ := fits_num rfl f3
    exact ⟨rfl, rfl⟩
  · obtain ⟨x0, r0, rfl, f0, h⟩ := okAll_cons (f := nameF) (fs := [partF, timeF]) h
    obtain ⟨x1, r1, rfl, f1, h⟩ := okAll_cons h
    obtain ⟨x2, r2, rfl, f2, h⟩ := okAll_cons h
    obtain rfl := okAll_nil h
    obtain ⟨n0, rfl, _⟩ := fits_text rfl f0
    obtain ⟨n1, rfl, _⟩ := fits_num rfl f1
    obtain ⟨n2, rfl, _⟩ := fits_num rfl f2
    exact ⟨rfl, rfl⟩
  · obtain ⟨x0, r0, rfl, f0, h⟩ := okAll_cons (f := nameF) (fs := [nameF, partF]) h
    obtain ⟨x1, r1, rfl, f1, h⟩ := okAll_cons h
    obtain ⟨x2, r2, rfl, f2, h⟩ := okAll_cons h
    obtain rfl := okAll_nil h
    obtain ⟨n0, rfl, _⟩ := fits_text rfl f0
    obtain ⟨n1, rfl, _⟩ := fits_text rfl f1
    obtain ⟨n2, rfl, _⟩ := fits_num rfl f2
    exact ⟨rfl, rfl⟩
theorem right_kindA {a : Ask} (h : rightA a = true) : 1 ≤ a.kind ∧ a.kind ≤ 9 := by
  obtain ⟨_, ⟨h1, _⟩ | ⟨_, h1⟩⟩ := rightA_facts h
  · have := writ_iff.1 h1
    omega
  · have := read_iff.1 (reads_facts h1).1
    omega
theorem w8_kindA {k : Int} (h : 1 ≤ k ∧ k ≤ 9) : w8 (UInt8.ofNat k.toNat) = k := by
  unfold w8
  rw [UInt8.toNat_ofNat']
  omega
theorem corr4_put {c : Int} (h : 0 ≤ c ∧ c ≤ 4294967295) : corr4 (byteAt c.toNat 0) (byteAt c.toNat 1) (byteAt c.toNat 2) (byteAt c.toNat 3) = c := by
  obtain ⟨n, rfl⟩ := Int.eq_ofNat_of_zero_le h.1
  unfold corr4
  rw [Int.toNat_natCast, ← byteAt_w8, ← byteAt_w8, ← byteAt_w8, ← byteAt_w8]
  simp only [Nat.reduceMul, Nat.mul_zero, Nat.mul_one, Int.reducePow, Int.pow_zero]
  omega
theorem corr4_bytes (c0 c1 c2 c3 : UInt8) : (0 ≤ corr4 c0 c1 c2 c3 ∧ corr4 c0 c1 c2 c3 ≤ 4294967295) ∧ byteAt (corr4 c0 c1 c2 c3).toNat 0 = c0 ∧ byteAt (corr4 c0 c1 c2 c3).toNat 1 = c1 ∧ byteAt (corr4 c0 c1 c2 c3).toNat 2 = c2 ∧ byteAt (corr4 c0 c1 c2 c3).toNat 3 = c3 := by
  have h0 := w8_lt c0
  have h1 := w8_lt c1
  have h2 := w8_lt c2
  have h3 := w8_lt c3
  have hr : 0 ≤ corr4 c0 c1 c2 c3 ∧ corr4 c0 c1 c2 c3 ≤ 4294967295 := by unfold corr4; omega
  refine ⟨hr, ?_, ?_, ?_, ?_⟩ <;> (apply w8_inj; rw [← byteAt_w8, Int.toNat_of_nonneg hr.1]; unfold corr4; simp only [Nat.reduceMul, Nat.mul_zero, Nat.mul_one, Int.reducePow, Int.pow_zero]; omega)
/-- the entry of an ask that writes, from its byte and the rest -/
theorem ent_back {a : Ask} (h : rightE a.ent = true) : UInt8.ofNat a.kind.toNat :: (putE a.ent).drop 1 = putE a.ent := by
  rw [putE_eq h]
  rfl
theorem body_put {a : Ask} (h : rightA a = true) : ∃ b, bodyA (UInt8.ofNat a.kind.toNat) (restA a) = .ok b ∧ b.num a.corr = a := by
  obtain ⟨_, ⟨hw, hm, ht, hr⟩ | ⟨hw, hr⟩⟩ := rightA_facts h
  · refine ⟨ofE a.ent, ?_, ?_⟩
    · unfold bodyA restA
      rw [w8_kindA (right_kindA h), if_pos hw, if_pos hw, ent_back hr, getE_put hr]
    · obtain ⟨c, k, t, g, p, ps, f, o, m, ti, b⟩ := a
      subst hm ht
      rfl
  · obtain ⟨h1, h2, _⟩ := reads_facts hr
    refine ⟨madeA a.kind (valsA a), ?_, made_back hr⟩
    unfold bodyA restA
    rw [w8_kindA (right_kindA h), hw, if_neg (by decide), if_pos h1, if_neg (by decide), getAll_put _ _ (good_A _) h2]
theorem getA_put {a : Ask} (h : rightA a = true) : getA (putA a) = .ok a := by
  unfold putA
  rw [if_pos h]
  show getA6 1 (UInt8.ofNat a.kind.toNat) (byteAt a.corr.toNat 0) (byteAt a.corr.toNat 1) (byteAt a.corr.toNat 2) (byteAt a.corr.toNat 3) (restA a) = _
  obtain ⟨b, hb, hn⟩ := body_put h
  unfold getA6
  rw [if_pos (by rfl), hb, corr4_put (rightA_facts h).1]
  simp only [hn, h, if_true]
theorem putA_eq {a : Ask} (h : rightA a = true) : putA a = headA a.kind a.corr ++ restA a := by unfold putA; rw [if_pos h]
theorem putA_no {a : Ask} (h : rightA a = false) : putA a = [] := by unfold putA; rw [if_neg (by rw [h]; decide)]
theorem putA_len6 {a : Ask} (h : rightA a = true) : 6 ≤ (putA a).length := by
  rw [putA_eq h, List.length_append]
  exact Nat.le_add_right 6 _
/-- other ends of the rest -/
theorem body_rest {a : Ask} (h : rightA a = true) (r : List UInt8) (e : Int) (h1 : writK a.kind = true → getE (UInt8.ofNat a.kind.toNat :: r) = .error e) (h2 : readsA a = true → getAll (fldsA a.kind) r = .error e) : bodyA (UInt8.ofNat a.kind.toNat) r = .error e := by
  obtain ⟨_, ⟨hw, hm, ht, hr⟩ | ⟨hw, hr⟩⟩ := rightA_facts h
  · unfold bodyA
    rw [w8_kindA (right_kindA h), if_pos hw, h1 hw]
  · unfold bodyA
    rw [w8_kindA (right_kindA h), hw, if_neg (by decide), if_pos (reads_facts hr).1, h2 hr]
theorem getA_head {a : Ask} (h : rightA a = true) (r : List UInt8) (e : Int) (hb : bodyA (UInt8.ofNat a.kind.toNat) r = .error e) : getA (headA a.kind a.corr ++ r) = .error (a.corr, e) := by
  show getA6 1 (UInt8.ofNat a.kind.toNat) (byteAt a.corr.toNat 0) (byteAt a.corr.toNat 1) (byteAt a.corr.toNat 2) (byteAt a.corr.toNat 3) r = _
  unfold getA6
  rw [if_pos (by rfl), hb, corr4_put (rightA_facts h).1]
theorem getA_more {a : Ask} (h : rightA a = true) (x : UInt8) : getA (putA a ++ [x]) = .error (a.corr, 4) := by
  rw [putA_eq h, List.append_assoc]
  refine getA_head h _ 4 (body_rest h _ 4 (fun hw => ?_) fun hr => ?_)
  · obtain ⟨_, ⟨_, _, _, hr⟩ | ⟨hw', _⟩⟩ := rightA_facts h
    · unfold restA
      rw [if_pos hw, ← List.cons_append, ent_back hr, getE_more hr]
    · rw [hw] at hw'; cases hw'
  · obtain ⟨h1, h2, _⟩ := reads_facts hr
    unfold restA
    rw [read_writ h1, if_neg (by decide), getAll_more _ _ x (good_A _) h2]
theorem getA_cut {a : Ask} (h : rightA a = true) {k : Nat} (hk6 : 6 ≤ k) (hk : k < (putA a).length) : getA ((putA a).take k) = .error (a.corr, 3) := by
  have hl : (putA a).length = 6 + (restA a).length := by rw [putA_eq h, List.length_append]; rfl
  obtain ⟨j, rfl⟩ : ∃ j, k = 6 + j := ⟨k - 6, by omega⟩
  have hj : j < (restA a).length := by omega
  have ht : (putA a).take (6 + j) = headA a.kind a.corr ++ (restA a).take j := by
    rw [putA_eq h]
    exact List.take_length_add_append (l₁ := headA a.kind a.corr) (l₂ := restA a) j
  rw [ht]
  refine getA_head h _ 3 (body_rest h _ 3 (fun hw => ?_) fun hr => ?_)
  · obtain ⟨_, ⟨_, _, _, hr⟩ | ⟨hw', _⟩⟩ := rightA_facts h
    · have e1 : restA a = (putE a.ent).drop 1 := by unfold restA; rw [if_pos hw]
      have e2 := ent_back hr
      have e3 : UInt8.ofNat a.kind.toNat :: (restA a).take j = (putE a.ent).take (j + 1) := by rw [← e2, List.take_succ_cons, e1]
      rw [e3]
      refine getE_cut hr ?_
      rw [← e2, List.length_cons, ← e1]
      omega
    · rw [hw] at hw'; cases hw'
  · obtain ⟨h1, h2, _⟩ := reads_facts hr
    have e1 : restA a = bytesAll (fldsA a.kind) (valsA a) := by unfold restA; rw [read_writ h1, if_neg (by decide)]
    rw [e1] at hj ⊢
    exact getAll_cut _ _ j (good_A _) h2 hj
theorem getA_short {l : List UInt8} (h : l.length < 6) : getA l = .error (0, 3) := by
  match l, h with
  | [], _ => rfl
  | [_], _ => rfl
  | [_, _], _ => rfl
  | [_, _, _], _ => rfl
  | [_, _, _, _], _ => rfl
  | [_, _, _, _, _], _ => rfl
  | _ :: _ :: _ :: _ :: _ :: _ :: _, h => exact absurd h (by simp)
/-- of another version -/
theorem getA_ver {a : Ask} (h : rightA a = true) {v : UInt8} (hv : w8 v ≠ 1) : getA ((putA a).set 0 v) = .error (a.corr, 14) := by
  rw [putA_eq h]
  show getA6 v (UInt8.ofNat a.kind.toNat) (byteAt a.corr.toNat 0) (byteAt a.corr.toNat 1) (byteAt a.corr.toNat 2) (byteAt a.corr.toNat 3) (restA a) = _
  unfold getA6
  rw [if_neg hv, corr4_put (rightA_facts h).1]
theorem getA_inv {l : List UInt8} {a : Ask} (h : getA l = .ok a) : rightA a = true ∧ putA a = l := by
  match l, h with
  | v :: k :: c0 :: c1 :: c2 :: c3 :: r, h =>
    change getA6 v k c0 c1 c2 c3 r = .ok a at h
    unfold getA6 at h
    split at h
    · rename_i hv
      split at h
      · rename_i b hb
        split at h
        · rename_i hr
          injection h with h
          subst h
          refine ⟨hr, ?_⟩
          obtain ⟨_, q0, q1, q2, q3⟩ := corr4_bytes c0 c1 c2 c3
          rw [putA_eq hr]
          have hv1 : v = 1 := w8_inj (by rw [hv]; rfl)
          subst hv1
          have hkr := right_kindA hr
          have hw8 : UInt8.ofNat b.kind.toNat = k ∧ restA (b.num (corr4 c0 c1 c2 c3)) = r := by
            unfold bodyA at hb
            split at hb
            · rename_i hw
              split at hb
              · rename_i e he
                injection hb with hb
                subst hb
                obtain ⟨p1, p2, u, r', p3, p4⟩ := getE_inv he
                injection p3 with p3 p3'
                subst p3 p3'
                have hkk : w8 k = e.kind := p4
                refine ⟨w8_inj (by rw [hkk]; exact w8_kindA hkr), ?_⟩
                unfold restA
                rw [if_pos (show writK ((ofE e).num (corr4 c0 c1 c2 c3)).kind = true from (show writK e.kind = true by rw [← hkk]; exact hw))]
                show (putE e).drop 1 = r
                rw [p2]
                rfl
              · cases hb
            · rename_i hw
              split at hb
              · rename_i hrd
                split at hb
                · rename_i vs hvs
                  injection hb with hb
                  obtain ⟨a1, a2⟩ := getAll_inv _ _ _ (good_A _) hvs
                  obtain ⟨m1, m2⟩ := made_valsA hrd a1
                  have hbk : b.kind = w8 k := by rw [← hb]; exact m1
                  refine ⟨w8_inj (by rw [← hbk]; exact w8_kindA hkr), ?_⟩
                  unfold restA
                  rw [if_neg (show ¬ writK (b.num (corr4 c0 c1 c2 c3)).kind = true from (show ¬ writK b.kind = true by rw [hbk]; exact hw))]
                  show bytesAll (fldsA b.kind) (valsA b) = r
                  rw [hbk, ← hb, m2, a2]
                · cases hb
              · cases hb
          show 1 :: UInt8.ofNat b.kind.toNat :: byteAt (corr4 c0 c1 c2 c3).toNat 0 :: byteAt (corr4 c0 c1 c2 c3).toNat 1 :: byteAt (corr4 c0 c1 c2 c3).toNat 2 :: byteAt (corr4 c0 c1 c2 c3).toNat 3 :: restA (b.num (corr4 c0 c1 c2 c3)) = _
          rw [q0, q1, q2, q3, hw8.1, hw8.2]
        · cases h
      · cases h
    · cases h
end Go.Proofs.YtpfdbbcfcimmfaaGreatDoor

/-
  ask: memory of an ask; Writes, Entry, bare.
-/
namespace Go.Proofs.YtpfdbbcfcimmfaaGreatDoor
open Go.RowKit

def ldA (v : Value) : Sem Value := Instr.loadAt 47 v
theorem ldA_eq (v : Value) : Instr.loadAt 47 v = ldA v := rfl
def stA (v u : Value) : Sem Unit := Instr.storeAt 47 v u
theorem stA_eq (v u : Value) : Instr.storeAt 47 v u = stA v u := rfl
theorem size_a : (Tryz.prog.info? 47).map (·.size) = some 14 := by kernel_rfl
theorem ldA_bk {w : World} {G : Nat} {co k : Int} {t g : ByteArray} {p1 p2 p3 p4 p5 p6 p7 p8 p9 : Int} {A : Option Addr} {n c : Nat} (h : Bk w G 47 #[.int .i64 co, .int .i64 k, .string t, .string g, .int .i64 p1, .int .i64 p2, .int .i64 p3, .int .i64 p4, .int .i64 p5, .int .i64 p6, .int .i64 p7, .int .i64 p8, .int .i64 p9, .slice A n c]) :
    (ldA (.pointer (some ⟨G, 0, none⟩))).run Tryz.prog w = .ok (.agg #[.int .i64 co, .int .i64 k, .string t, .string g, .int .i64 p1, .int .i64 p2, .int .i64 p3, .int .i64 p4, .int .i64 p5, .int .i64 p6, .int .i64 p7, .int .i64 p8, .int .i64 p9, .slice A n c]) w := by
  unfold ldA
  simp only [Instr.loadAt, Instr.sureAddr, Sem.run_bind, Sem.run_pure, Result.andThen_ok, run_loadVar_row w G _ _ _ (0, 0) _ h Tryz.underlying47 rfl size_a]
theorem stA_row {w : World} {G : Nat} {old : Array Value} (h : Bk w G 47 old) (ho : old.size = 14) (co k : Int) (t g : ByteArray) (p1 p2 p3 p4 p5 p6 p7 p8 p9 : Int) (A : Option Addr) (n c : Nat) :
    (stA (.pointer (some ⟨G, 0, none⟩)) (.agg #[.int .i64 co, .int .i64 k, .string t, .string g, .int .i64 p1, .int .i64 p2, .int .i64 p3, .int .i64 p4, .int .i64 p5, .int .i64 p6, .int .i64 p7, .int .i64 p8, .int .i64 p9, .slice A n c])).run Tryz.prog w = .ok () (w.setRow G #[.int .i64 co, .int .i64 k, .string t, .string g, .int .i64 p1, .int .i64 p2, .int .i64 p3, .int .i64 p4, .int .i64 p5, .int .i64 p6, .int .i64 p7, .int .i64 p8, .int .i64 p9, .slice A n c]) := by
  unfold stA
  simp only [Instr.storeAt, Instr.sureAddr, Sem.run_bind, Sem.run_pure, Result.andThen_ok, run_storeVar_row w G _ _ old #[.int .i64 co, .int .i64 k, .string t, .string g, .int .i64 p1, .int .i64 p2, .int .i64 p3, .int .i64 p4, .int .i64 p5, .int .i64 p6, .int .i64 p7, .int .i64 p8, .int .i64 p9, .slice A n c] h size_a (by rw [ho]; rfl) (all_oneCell_toArray (one_all rfl))]
theorem stA_newAt (w : World) (G : Nat) (hG : G = w.heap.size) (co k : Int) (t g : ByteArray) (p1 p2 p3 p4 p5 p6 p7 p8 p9 : Int) (A : Option Addr) (n c : Nat) (old : Array Value) (ho : old.size = 14) :
    (stA (.pointer (some ⟨G, 0, none⟩)) (.agg #[.int .i64 co, .int .i64 k, .string t, .string g, .int .i64 p1, .int .i64 p2, .int .i64 p3, .int .i64 p4, .int .i64 p5, .int .i64 p6, .int .i64 p7, .int .i64 p8, .int .i64 p9, .slice A n c])).run Tryz.prog (w.alloc (.cells old 47)) = .ok () (w.alloc (.cells #[.int .i64 co, .int .i64 k, .string t, .string g, .int .i64 p1, .int .i64 p2, .int .i64 p3, .int .i64 p4, .int .i64 p5, .int .i64 p6, .int .i64 p7, .int .i64 p8, .int .i64 p9, .slice A n c] 47)) := by
  subst hG
  exact run_storeAt_new w 47 _ _ size_a ho (all_oneCell_toArray (one_all rfl))
theorem stB_newAt (w : World) (G : Nat) (hG : G = w.heap.size) (t p s : Int) (A : Option Addr) (n c : Nat) (old : Array Value) (ho : old.size = 4) :
    (stB (.pointer (some ⟨G, 0, none⟩)) (.agg #[.int .i64 t, .int .i64 p, .int .i64 s, .slice A n c])).run Tryz.prog (w.alloc (.cells old 24)) = .ok () (w.alloc (.cells #[.int .i64 t, .int .i64 p, .int .i64 s, .slice A n c] 24)) := by
  subst hG
  exact run_storeAt_new w 24 _ _ size_b ho (all_oneCell_toArray (one_all rfl))
theorem res_ask {fn : Func} {p u : Tmp} (h : fn.results = #[.cell p 47, .tmp u]) (tmps : Array Value) (w : World) (G : Nat) (co k : Int) (t g : ByteArray) (p1 p2 p3 p4 p5 p6 p7 p8 p9 : Int) (A : Option Addr) (n c : Nat) (hp : tmps.getD p undef = .pointer (some ⟨G, 0, none⟩))
    (hb : Bk w G 47 #[.int .i64 co, .int .i64 k, .string t, .string g, .int .i64 p1, .int .i64 p2, .int .i64 p3, .int .i64 p4, .int .i64 p5, .int .i64 p6, .int .i64 p7, .int .i64 p8, .int .i64 p9, .slice A n c]) :
    (results fn tmps).run Tryz.prog w = .ok (.tuple #[.agg #[.int .i64 co, .int .i64 k, .string t, .string g, .int .i64 p1, .int .i64 p2, .int .i64 p3, .int .i64 p4, .int .i64 p5, .int .i64 p6, .int .i64 p7, .int .i64 p8, .int .i64 p9, .slice A n c], tmps.getD u undef]) w := by
  rw [results_cell_tmp h, hp]
  simp only [asAddr, Sem.run_pure, Result.andThen_ok, run_loadVar_row w G _ _ _ (0, 0) _ hb Tryz.underlying47 rfl size_a]
theorem ldB_of_ask {w : World} {G : Nat} {co k : Int} {t g : ByteArray} {p1 p2 p3 p4 p5 p6 p7 p8 p9 : Int} {A : Option Addr} {n c : Nat} (h : Bk w G 47 #[.int .i64 co, .int .i64 k, .string t, .string g, .int .i64 p1, .int .i64 p2, .int .i64 p3, .int .i64 p4, .int .i64 p5, .int .i64 p6, .int .i64 p7, .int .i64 p8, .int .i64 p9, .slice A n c]) :
    (ldB (.pointer (some ⟨G, 10, none⟩))).run Tryz.prog w = .ok (.agg #[.int .i64 p7, .int .i64 p8, .int .i64 p9, .slice A n c]) w :=
  ldB_at (b := ⟨p7, p8, p9, []⟩) (fun j u hu => by
    rw [h.cell]
    match j, hu with
    | 0, hu => exact hu
    | 1, hu => exact hu
    | 2, hu => exact hu
    | 3, hu => exact hu
    | j + 4, hu => exact absurd (List.getElem?_eq_some_iff.1 hu).1 (by simp [Bat.cells]))
attribute [local go_sem ↓] ldB_eq stB_eq ldE_eq stE_eq ldA_eq stA_eq
set_option maxRecDepth 100000 in
set_option maxHeartbeats 4000000 in
theorem writes_any (k : Int) (w : World) : Calls Tryz.prog 28 #[.int .i64 k] w fun e w' => e = .returned (.bool (writK k)) ∧ w = w' := by
  have hk : k = 1 ∨ k = 2 ∨ k = 3 ∨ k = 4 ∨ k = 5 ∨ ((k == 1) = false ∧ (k == 2) = false ∧ (k == 3) = false ∧ (k == 4) = false ∧ (k == 5) = false) := by
    simp only [beq_eq_false_iff_ne]
    omega
  rcases hk with rfl | rfl | rfl | rfl | rfl | ⟨k1, k2, k3, k4, k5⟩
  all_goals
    go_enter Tryz.func28, Tryz.ntmps28
    go_wp2
    go_ret
  · exact ⟨rfl, rfl⟩
  · exact ⟨rfl, rfl⟩
  · exact ⟨rfl, rfl⟩
  · exact ⟨rfl, rfl⟩
  · exact ⟨rfl, rfl⟩
  · refine ⟨ret_bool ?_, rfl⟩
    cases hw : writK k
    · rfl
    · have h := writ_iff.1 hw
      simp only [beq_eq_false_iff_ne] at k1 k2 k3 k4 k5
      omega
set_option maxRecDepth 100000 in
set_option maxHeartbeats 4000000 in
theorem aent_any (a : Ask) (A : Option Addr) (n c : Nat) (w : World) : Calls Tryz.prog 30 #[.agg #[.int .i64 a.corr, .int .i64 a.kind, .string a.topic, .string a.group, .int .i64 a.part, .int .i64 a.parts, .int .i64 a.first, .int .i64 a.off, .int .i64 a.most, .int .i64 a.time, .int .i64 a.bat.time, .int .i64 a.bat.prod, .int .i64 a.bat.seq, .slice A n c]] w fun er w' => er = .returned (.agg #[.int .i64 a.kind, .string a.topic, .string a.group, .int .i64 a.part, .int .i64 a.parts, .int .i64 a.first, .int .i64 a.off, .int .i64 a.bat.time, .int .i64 a.bat.prod, .int .i64 a.bat.seq, .slice A n c]) ∧ Below w.heap.size w w' := by
  have hbk := Bk.made w 47 #[.int .i64 a.corr, .int .i64 a.kind, .string a.topic, .string a.group, .int .i64 a.part, .int .i64 a.parts, .int .i64 a.first, .int .i64 a.off, .int .i64 a.most, .int .i64 a.time, .int .i64 a.bat.time, .int .i64 a.bat.prod, .int .i64 a.bat.seq, .slice A n c]
  have hlb := ldB_of_ask (hbk.alloc (.cells #[.int .i64 0, .string ⟨#[]⟩, .string ⟨#[]⟩, .int .i64 0, .int .i64 0, .int .i64 0, .int .i64 0, .int .i64 0, .int .i64 0, .int .i64 0, .slice none 0 0] 26))
  have hst := stE_newAt (w.alloc (.cells #[.int .i64 a.corr, .int .i64 a.kind, .string a.topic, .string a.group, .int .i64 a.part, .int .i64 a.parts, .int .i64 a.first, .int .i64 a.off, .int .i64 a.most, .int .i64 a.time, .int .i64 a.bat.time, .int .i64 a.bat.prod, .int .i64 a.bat.seq, .slice A n c] 47)) (w.heap.size + 1) (by simp) a.kind a.topic a.group a.part a.parts a.first a.off a.bat.time a.bat.prod a.bat.seq A n c #[.int .i64 0, .string ⟨#[]⟩, .string ⟨#[]⟩, .int .i64 0, .int .i64 0, .int .i64 0, .int .i64 0, .int .i64 0, .int .i64 0, .int .i64 0, .slice none 0 0] rfl
  have HB := Lib.hid (below_two w (.cells #[.int .i64 a.corr, .int .i64 a.kind, .string a.topic, .string a.group, .int .i64 a.part, .int .i64 a.parts, .int .i64 a.first, .int .i64 a.off, .int .i64 a.most, .int .i64 a.time, .int .i64 a.bat.time, .int .i64 a.bat.prod, .int .i64 a.bat.seq, .slice A n c] 47) (.cells #[.int .i64 a.kind, .string a.topic, .string a.group, .int .i64 a.part, .int .i64 a.parts, .int .i64 a.first, .int .i64 a.off, .int .i64 a.bat.time, .int .i64 a.bat.prod, .int .i64 a.bat.seq, .slice A n c] 26))
  have HK := Lib.hid (Bk.made_at (w.alloc (.cells #[.int .i64 a.corr, .int .i64 a.kind, .string a.topic, .string a.group, .int .i64 a.part, .int .i64 a.parts, .int .i64 a.first, .int .i64 a.off, .int .i64 a.most, .int .i64 a.time, .int .i64 a.bat.time, .int .i64 a.bat.prod, .int .i64 a.bat.seq, .slice A n c] 47)) (w.heap.size + 1) 26 #[.int .i64 a.kind, .string a.topic, .string a.group, .int .i64 a.part, .int .i64 a.parts, .int .i64 a.first, .int .i64 a.off, .int .i64 a.bat.time, .int .i64 a.bat.prod, .int .i64 a.bat.seq, .slice A n c] (by simp))
  clear hbk
  go_enter Tryz.func30, Tryz.ntmps30
  go_wp2_with fail
  exact bodyPost_ret (results_cell_row rfl _ _ (w.heap.size + 1) _ _ (0, 0) _ rfl HK.out Tryz.underlying26 rfl size_e) rfl ⟨rfl, HB.out⟩
set_option maxRecDepth 100000 in
set_option maxHeartbeats 4000000 in
theorem bare_any (a : Ask) (A : Option Addr) (n c : Nat) (w : World) (hr : RdT w A n c a.bat.vals) (r : Bool) (hre : bareA a = r) : Calls Tryz.prog 93 #[.agg #[.int .i64 a.corr, .int .i64 a.kind, .string a.topic, .string a.group, .int .i64 a.part, .int .i64 a.parts, .int .i64 a.first, .int .i64 a.off, .int .i64 a.most, .int .i64 a.time, .int .i64 a.bat.time, .int .i64 a.bat.prod, .int .i64 a.bat.seq, .slice A n c]] w fun er w' => er = .returned (.bool r) ∧ Below w.heap.size w w' := by
  have hbk := Bk.made w 47 #[.int .i64 a.corr, .int .i64 a.kind, .string a.topic, .string a.group, .int .i64 a.part, .int .i64 a.parts, .int .i64 a.first, .int .i64 a.off, .int .i64 a.most, .int .i64 a.time, .int .i64 a.bat.time, .int .i64 a.bat.prod, .int .i64 a.bat.seq, .slice A n c]
  have hlb := ldB_of_ask hbk
  have hst := stB_newAt (w.alloc (.cells #[.int .i64 a.corr, .int .i64 a.kind, .string a.topic, .string a.group, .int .i64 a.part, .int .i64 a.parts, .int .i64 a.first, .int .i64 a.off, .int .i64 a.most, .int .i64 a.time, .int .i64 a.bat.time, .int .i64 a.bat.prod, .int .i64 a.bat.seq, .slice A n c] 47)) (w.heap.size + 1) (by simp) a.bat.time a.bat.prod a.bat.seq A n c #[.int .i64 0, .int .i64 0, .int .i64 0, .slice none 0 0] rfl
  have HB := Lib.hid (below_two w (.cells #[.int .i64 a.corr, .int .i64 a.kind, .string a.topic, .string a.group, .int .i64 a.part, .int .i64 a.parts, .int .i64 a.first, .int .i64 a.off, .int .i64 a.most, .int .i64 a.time, .int .i64 a.bat.time, .int .i64 a.bat.prod, .int .i64 a.bat.seq, .slice A n c] 47) (.cells #[.int .i64 a.bat.time, .int .i64 a.bat.prod, .int .i64 a.bat.seq, .slice A n c] 24))
  have HL := Lib.hid hr.len
  have Hre := Lib.hid hre
  clear hbk hr hre
  by_cases h0 : a.parts = 0
  · have q0 : (a.parts == 0) = true := by simp [h0]
    have H0 := Lib.hid h0
    clear h0
    by_cases h1 : a.first = 0
    · have q1 : (a.first == 0) = true := by simp [h1]
      have H1 := Lib.hid h1
      clear h1
      by_cases h2 : a.bat.time = 0
      · have q2 : (a.bat.time == 0) = true := by simp [h2]
        have H2 := Lib.hid h2
        clear h2
        by_cases h3 : a.bat.prod = 0
        · have q3 : (a.bat.prod == 0) = true := by simp [h3]
          have H3 := Lib.hid h3
          clear h3
          by_cases h4 : a.bat.seq = 0
          · have q4 : (a.bat.seq == 0) = true := by simp [h4]
            have H4 := Lib.hid h4
            clear h4
            by_cases h5 : n = 0
            · subst h5
              have H5 : Hid (a.bat.vals = []) := List.eq_nil_of_length_eq_zero HL.out
              go_enter Tryz.func93, Tryz.ntmps93
              go_wp2_with fail
              go_ret
              exact ⟨ret_bool (by rw [← Hre.out]; unfold bareA; simp [H0.out, H1.out, H2.out, H3.out, H4.out, H5.out]), HB.out⟩
            · have q5 : ((n : Int) == 0) = false := by simp [h5]
              have H5 : Hid (¬ a.bat.vals = []) := fun e => h5 (by have := HL.out; rw [e] at this; exact this.symm)
              clear h5
              go_enter Tryz.func93, Tryz.ntmps93
              go_wp2_with fail
              go_ret
              exact ⟨ret_bool (by rw [← Hre.out]; unfold bareA; simp [H0.out, H1.out, H2.out, H3.out, H4.out, H5.out]), HB.out⟩
          · have q4 : (a.bat.seq == 0) = false := by simp [h4]
            have H4 := Lib.hid h4
            clear h4
            go_enter Tryz.func93, Tryz.ntmps93
            go_wp2_with fail
            go_ret
            exact ⟨ret_bool (by rw [← Hre.out]; unfold bareA; simp [H0.out, H1.out, H2.out, H3.out, H4.out]), HB.out⟩
        · have q3 : (a.bat.prod == 0) = false := by simp [h3]
          have H3 := Lib.hid h3
          clear h3
          go_enter Tryz.func93, Tryz.ntmps93
          go_wp2_with fail
          go_ret
          exact ⟨ret_bool (by rw [← Hre.out]; unfold bareA; simp [H0.out, H1.out, H2.out, H3.out]), HB.out⟩
      · have q2 : (a.bat.time == 0) = false := by simp [h2]
        have H2 := Lib.hid h2
        clear h2
        go_enter Tryz.func93, Tryz.ntmps93
        go_wp2_with fail
        go_ret
        exact ⟨ret_bool (by rw [← Hre.out]; unfold bareA; simp [H0.out, H1.out, H2.out]), HB.out⟩
    · have q1 : (a.first == 0) = false := by simp [h1]
      have H1 := Lib.hid h1
      clear h1
      go_enter Tryz.func93, Tryz.ntmps93
      go_wp2_with fail
      go_ret
      exact ⟨ret_bool (by rw [← Hre.out]; unfold bareA; simp [H0.out, H1.out]), HB.out⟩
  · have q0 : (a.parts == 0) = false := by simp [h0]
    have H0 := Lib.hid h0
    clear h0
    go_enter Tryz.func93, Tryz.ntmps93
    go_wp2_with fail
    go_ret
    exact ⟨ret_bool (by rw [← Hre.out]; unfold bareA; simp [H0.out]), HB.out⟩
end Go.Proofs.YtpfdbbcfcimmfaaGreatDoor

/-
  ask: fields.
-/
namespace Go.Proofs.YtpfdbbcfcimmfaaGreatDoor
open Go.RowKit
attribute [local go_sem ↓] ldF_eq stF_eq

theorem info_fz : (Tryz.prog.info? 98).map (·.size) = some 5 := by kernel_rfl
set_option maxRecDepth 100000 in
set_option maxHeartbeats 4000000 in
theorem afld1 (size hi : Int) (w : World) :
    Calls Tryz.prog 92 #[.int .i64 size, .int .i64 hi] w fun e w' => e = .returned (.agg #[.int .i64 1, .int .i64 size, .int .i64 0, .int .i64 hi, .int .i64 0]) ∧ Below w.heap.size w w' := by
  have hst := stF_new w (nF size 0 hi)
  have HB := Lib.hid (below_new w (.cells #[.int .i64 1, .int .i64 size, .int .i64 0, .int .i64 hi, .int .i64 0] 98))
  have HK := Lib.hid (Bk.made w 98 #[.int .i64 1, .int .i64 size, .int .i64 0, .int .i64 hi, .int .i64 0])
  simp only [nF] at hst
  go_enter Tryz.func92, Tryz.ntmps92
  go_wp2
  exact bodyPost_ret (results_cell_row rfl _ _ w.heap.size _ _ (0, 0) _ rfl HK.out Tryz.underlying98 rfl size_f) rfl ⟨rfl, HB.out⟩
theorem aRdF {k : Int} {w' : World} {g : Nat} {t : TypeId} {cs : Array Value} {n : Nat} (hb : Bk w' g t cs) (hc : cs = ((fldsA k).flatMap Fld.cells).toArray) (hn : (fldsA k).length = n) (hn' : n ≤ 100) : RdF w' (some ⟨g, 0, none⟩) n n (fldsA k) :=
  RdK.of_bk hb Fld.cells f5 (fldsA k) hc n n hn (Nat.le_refl _) (by omega)
set_option maxRecDepth 100000 in
set_option maxHeartbeats 4000000 in
theorem afields_any (k : Int) (w : World) :
    Calls Tryz.prog 55 #[.int .i64 k] w fun e w' => ∃ A n c b, e = .returned (.tuple #[.slice A n c, .bool b]) ∧ b = readK k ∧ RdF w' A n c (fldsA k) ∧ n ≤ 100 ∧ Below w.heap.size w w' := by
  have hk : k = 6 ∨ k = 7 ∨ k = 8 ∨ k = 9 ∨ ((k == 6) = false ∧ (k == 7) = false ∧ (k == 8) = false ∧ (k == 9) = false) := by
    simp only [beq_eq_false_iff_ne]
    omega
  have hst1 := stF_new w (sF 1 24)
  simp only [sF] at hst1
  have hbn1 := below_new w (.cells #[.int .i64 2, .int .i64 0, .int .i64 1, .int .i64 24, .int .i64 0] 98)
  have hk1 := Bk.made w 98 #[.int .i64 2, .int .i64 0, .int .i64 1, .int .i64 24, .int .i64 0]
  have HK1 := Lib.hid hk1
  have HB1 := Lib.hid hbn1
  have HN1 := Lib.hid (afld1 1 3 (w.alloc (.cells #[.int .i64 2, .int .i64 0, .int .i64 1, .int .i64 24, .int .i64 0] 98)))
  clear hbn1 hk1
  rcases hk with rfl | rfl | rfl | rfl | ⟨k6, k7, k8, k9⟩
  all_goals
    go_enter Tryz.func55, Tryz.ntmps55
    go_wp2_with fail
    with_reducible refine HN1.out.mono ?_
    rintro e w2 ⟨rfl, hb2⟩
    have hst2 := stF_new w2 (nF 1 0 3)
    simp only [nF] at hst2
    have hbn2 := below_new w2 (.cells #[.int .i64 1, .int .i64 1, .int .i64 0, .int .i64 3, .int .i64 0] 98)
    have hk2 := Bk.made w2 98 #[.int .i64 1, .int .i64 1, .int .i64 0, .int .i64 3, .int .i64 0]
    have HK12 := Lib.hid ((HK1.out.ext hb2).ext hbn2)
    have HK2 := Lib.hid hk2
    have HB2 := Lib.hid ((HB1.out.trans (below_le HB1.out.size hb2)).trans (below_le (Nat.le_trans HB1.out.size hb2.size) hbn2))
    clear hb2 hbn2 hk2 HN1 HK1 HB1 hst1
  · go_wp2_with fail
    go_ret2
    exact ⟨none, 0, 0, true, rfl, rfl, RdK.nil _ _, by omega, HB2.out⟩
  · go_upto_region 8 with fail
    generalize w2.alloc (.cells #[.int .i64 1, .int .i64 1, .int .i64 0, .int .i64 3, .int .i64 0] 98) = W at HK12 HK2 HB2 ⊢
    clear hst2
    have FS : Hid (∀ w', Below W.heap.size W w' → (Below W.heap.size W w' ∧ (ldF (.pointer (some ⟨w.heap.size, 0, none⟩))).run Tryz.prog w' = .ok (.agg #[.int .i64 2, .int .i64 0, .int .i64 1, .int .i64 24, .int .i64 0]) w' ∧ (ldF (.pointer (some ⟨w2.heap.size, 0, none⟩))).run Tryz.prog w' = .ok (.agg #[.int .i64 1, .int .i64 1, .int .i64 0, .int .i64 3, .int .i64 0]) w')) := fun w' hb => ⟨hb, ldF_bk (f := sF 1 24) (HK12.out.ext hb), ldF_bk (f := nF 1 0 3) (HK2.out.ext hb)⟩
    have KC : Hid (∀ (w' w'' : World) (R : Prop), Below W.heap.size W w' ∧ R → Below w'.heap.size w' w'' → Below W.heap.size W w'') := fun w' w'' R h hb => h.1.trans (below_le h.1.size hb)
    have KA : Hid (∀ (w' : World) (o : Obj) (R : Prop), Below W.heap.size W w' ∧ R → Below W.heap.size W (w'.alloc o)) := fun w' o R h => h.1.alloc h.1.size o
    have HNa : Hid (∀ (w' : World) (R : Prop), Below W.heap.size W w' ∧ R → Calls Tryz.prog 92 #[.int .i64 8, .int .i64 9223372036854775807] w' fun e w'' => e = .returned (.agg #[.int .i64 1, .int .i64 8, .int .i64 0, .int .i64 9223372036854775807, .int .i64 0]) ∧ Below w'.heap.size w' w'') := fun w' R h => afld1 8 9223372036854775807 w'
    have HNb : Hid (∀ (w' : World) (R : Prop), Below W.heap.size W w' ∧ R → Calls Tryz.prog 92 #[.int .i64 4, .int .i64 1048576] w' fun e w'' => e = .returned (.agg #[.int .i64 1, .int .i64 4, .int .i64 0, .int .i64 1048576, .int .i64 0]) ∧ Below w'.heap.size w' w'') := fun w' R h => afld1 4 1048576 w'
    go_region_held3 (fun w' => Below W.heap.size W w' ∧ (ldF (.pointer (some ⟨w.heap.size, 0, none⟩))).run Tryz.prog w' = .ok (.agg #[.int .i64 2, .int .i64 0, .int .i64 1, .int .i64 24, .int .i64 0]) w' ∧ (ldF (.pointer (some ⟨w2.heap.size, 0, none⟩))).run Tryz.prog w' = .ok (.agg #[.int .i64 1, .int .i64 1, .int .i64 0, .int .i64 3, .int .i64 0]) w') (first | exact FS.out _ (below_drew1 (Below.refl _ _)) | exact FS.out _ (KA.out _ _ _ (by assumption)) | exact FS.out _ (KC.out _ _ _ (by assumption) (by first | exact hb4 | exact hb3))) (first | (go_at_call 92; with_reducible refine (HNa.out _ _ (by assumption)).mono ?_; rintro er w3 ⟨rfl, hb3⟩; have hq3 : Below W.heap.size W w3 := KC.out _ _ _ (by assumption) hb3) | (go_at_call 92; with_reducible refine (HNb.out _ _ (by assumption)).mono ?_; rintro er w4 ⟨rfl, hb4⟩; have hq4 : Below W.heap.size W w4 := KC.out _ _ _ (by assumption) hb4) | fail)
    all_goals
      go_wp2_with fail
      go_ret2
      exact ⟨_, 4, 4, true, rfl, rfl, aRdF (Bk.made w4 _ _) rfl rfl (by omega), by omega, HB2.out.trans (below_le HB2.out.size (hq4.alloc hq4.size _))⟩
  · go_upto_region 10 with fail
    generalize w2.alloc (.cells #[.int .i64 1, .int .i64 1, .int .i64 0, .int .i64 3, .int .i64 0] 98) = W at HK12 HK2 HB2 ⊢
    clear hst2
    have FS : Hid (∀ w', Below W.heap.size W w' → (Below W.heap.size W w' ∧ (ldF (.pointer (some ⟨w.heap.size, 0, none⟩))).run Tryz.prog w' = .ok (.agg #[.int .i64 2, .int .i64 0, .int .i64 1, .int .i64 24, .int .i64 0]) w' ∧ (ldF (.pointer (some ⟨w2.heap.size, 0, none⟩))).run Tryz.prog w' = .ok (.agg #[.int .i64 1, .int .i64 1, .int .i64 0, .int .i64 3, .int .i64 0]) w')) := fun w' hb => ⟨hb, ldF_bk (f := sF 1 24) (HK12.out.ext hb), ldF_bk (f := nF 1 0 3) (HK2.out.ext hb)⟩
    have KC : Hid (∀ (w' w'' : World) (R : Prop), Below W.heap.size W w' ∧ R → Below w'.heap.size w' w'' → Below W.heap.size W w'') := fun w' w'' R h hb => h.1.trans (below_le h.1.size hb)
    have KA : Hid (∀ (w' : World) (o : Obj) (R : Prop), Below W.heap.size W w' ∧ R → Below W.heap.size W (w'.alloc o)) := fun w' o R h => h.1.alloc h.1.size o
    have HNa : Hid (∀ (w' : World) (R : Prop), Below W.heap.size W w' ∧ R → Calls Tryz.prog 92 #[.int .i64 8, .int .i64 1125899906842624] w' fun e w'' => e = .returned (.agg #[.int .i64 1, .int .i64 8, .int .i64 0, .int .i64 1125899906842624, .int .i64 0]) ∧ Below w'.heap.size w' w'') := fun w' R h => afld1 8 1125899906842624 w'
    go_region_held3 (fun w' => Below W.heap.size W w' ∧ (ldF (.pointer (some ⟨w.heap.size, 0, none⟩))).run Tryz.prog w' = .ok (.agg #[.int .i64 2, .int .i64 0, .int .i64 1, .int .i64 24, .int .i64 0]) w' ∧ (ldF (.pointer (some ⟨w2.heap.size, 0, none⟩))).run Tryz.prog w' = .ok (.agg #[.int .i64 1, .int .i64 1, .int .i64 0, .int .i64 3, .int .i64 0]) w') (first | exact FS.out _ (below_drew1 (Below.refl _ _)) | exact FS.out _ (KA.out _ _ _ (by assumption)) | exact FS.out _ (KC.out _ _ _ (by assumption) (by exact hb3))) (first | (go_at_call 92; with_reducible refine (HNa.out _ _ (by assumption)).mono ?_; rintro er w3 ⟨rfl, hb3⟩; have hq3 : Below W.heap.size W w3 := KC.out _ _ _ (by assumption) hb3) | fail)
    all_goals
      go_wp2_with fail
      go_ret2
      exact ⟨_, 3, 3, true, rfl, rfl, aRdF (Bk.made w3 _ _) rfl rfl (by omega), by omega, HB2.out.trans (below_le HB2.out.size (hq3.alloc hq3.size _))⟩
  · have l1 := ldF_bk (f := sF 1 24) HK12.out
    have l2 := ldF_bk (f := nF 1 0 3) HK2.out
    simp only [sF, nF] at l1 l2
    go_wp2_with fail
    go_ret2
    exact ⟨_, 3, 3, true, rfl, rfl, aRdF (Bk.made_at _ _ 98 _ (by simp)) rfl rfl (by omega), by omega, HB2.out.alloc HB2.out.size _⟩
  · go_wp2_with fail
    go_ret2
    simp only [beq_eq_false_iff_ne] at k6 k7 k8 k9
    refine ⟨none, 0, 0, false, rfl, ?_, ?_, by omega, HB2.out⟩
    · unfold readK
      simp [k6, k7, k8, k9]
    · unfold fldsA
      rw [if_neg k7, if_neg k8, if_neg k9]
      exact RdK.nil _ _
end Go.Proofs.YtpfdbbcfcimmfaaGreatDoor

/-
  ask: values.
-/
namespace Go.Proofs.YtpfdbbcfcimmfaaGreatDoor
open Go.RowKit
attribute [local go_sem ↓] ldB_eq stB_eq ldE_eq stE_eq ldA_eq stA_eq

theorem aRdV {w' : World} {g n : Nat} {t : TypeId} {cs : Array Value} (ms : List MVal) (hb : Bk w' g t cs) (hc : cs = (ms.flatMap MVal.cells).toArray) (hn : ms.length = n) (hn' : n ≤ 100) (hp : ∀ m ∈ ms, m.v.l = [] ∧ m.A = none ∧ m.n = 0 ∧ m.c = 0) :
    RdV w' (some ⟨g, 0, none⟩) n n ms := ⟨RdK.of_bk hb MVal.cells m3 ms hc n n hn (Nat.le_refl _) (by omega), plain_ok hp⟩
set_option maxRecDepth 100000 in
set_option maxHeartbeats 4000000 in
theorem avalues_any (co k : Int) (t g : ByteArray) (p1 p2 p3 p4 p5 p6 p7 p8 p9 : Int) (A : Option Addr) (n c : Nat) (vals : List ByteArray) (w : World) :
    Calls Tryz.prog 56 #[.agg #[.int .i64 co, .int .i64 k, .string t, .string g, .int .i64 p1, .int .i64 p2, .int .i64 p3, .int .i64 p4, .int .i64 p5, .int .i64 p6, .int .i64 p7, .int .i64 p8, .int .i64 p9, .slice A n c]] w fun e w' => ∃ A' n' c' ms, e = .returned (.slice A' n' c') ∧ RdV w' A' n' c' ms ∧ vsOf ms = valsA ⟨co, k, t, g, p1, p2, p3, p4, p5, p6, ⟨p7, p8, p9, vals⟩⟩ ∧ Below w.heap.size w w' := by
  have hk : k = 7 ∨ k = 8 ∨ k = 9 ∨ ((k == 7) = false ∧ (k == 8) = false ∧ (k == 9) = false) := by
    simp only [beq_eq_false_iff_ne]
    omega
  have HB := Lib.hid (below_new w (.cells #[.int .i64 co, .int .i64 k, .string t, .string g, .int .i64 p1, .int .i64 p2, .int .i64 p3, .int .i64 p4, .int .i64 p5, .int .i64 p6, .int .i64 p7, .int .i64 p8, .int .i64 p9, .slice A n c] 47))
  rcases hk with rfl | rfl | rfl | ⟨k7, k8, k9⟩
  · go_enter Tryz.func56, Tryz.ntmps56
    go_wp2
    go_ret
    exact ⟨_, _, _, [strM t, numM p1, numM p4, numM p5], rfl, aRdV [strM t, numM p1, numM p4, numM p5] (Bk.made_at _ _ 101 _ (by simp)) rfl rfl (by omega) (by simp [numM, strM, nV, sV]), rfl, HB.out.alloc (Nat.le_trans (Nat.le_refl _) HB.out.size) _⟩
  · go_enter Tryz.func56, Tryz.ntmps56
    go_wp2
    go_ret
    exact ⟨_, _, _, [strM t, numM p1, numM p6], rfl, aRdV [strM t, numM p1, numM p6] (Bk.made_at _ _ 101 _ (by simp)) rfl rfl (by omega) (by simp [numM, strM, nV, sV]), rfl, HB.out.alloc (Nat.le_trans (Nat.le_refl _) HB.out.size) _⟩
  · go_enter Tryz.func56, Tryz.ntmps56
    go_wp2
    go_ret
    exact ⟨_, _, _, [strM g, strM t, numM p1], rfl, aRdV [strM g, strM t, numM p1] (Bk.made_at _ _ 101 _ (by simp)) rfl rfl (by omega) (by simp [numM, strM, nV, sV]), rfl, HB.out.alloc (Nat.le_trans (Nat.le_refl _) HB.out.size) _⟩
  · go_enter Tryz.func56, Tryz.ntmps56
    go_wp2
    go_ret
    simp only [beq_eq_false_iff_ne] at k7 k8 k9
    refine ⟨none, 0, 0, [], rfl, ⟨RdK.nil _ _, fun m hm => absurd hm List.not_mem_nil⟩, ?_, HB.out⟩
    unfold valsA
    rw [if_neg k7, if_neg k8, if_neg k9]
    rfl
theorem aValues (a : Ask) (A : Option Addr) (n c : Nat) (w : World) :
    Calls Tryz.prog 56 #[.agg #[.int .i64 a.corr, .int .i64 a.kind, .string a.topic, .string a.group, .int .i64 a.part, .int .i64 a.parts, .int .i64 a.first, .int .i64 a.off, .int .i64 a.most, .int .i64 a.time, .int .i64 a.bat.time, .int .i64 a.bat.prod, .int .i64 a.bat.seq, .slice A n c]] w fun e w' => ∃ A' n' c' ms, e = .returned (.slice A' n' c') ∧ RdV w' A' n' c' ms ∧ vsOf ms = valsA a ∧ Below w.heap.size w w' :=
  avalues_any a.corr a.kind a.topic a.group a.part a.parts a.first a.off a.most a.time a.bat.time a.bat.prod a.bat.seq A n c a.bat.vals w
end Go.Proofs.YtpfdbbcfcimmfaaGreatDoor

/-
  ask: made.
-/
namespace Go.Proofs.YtpfdbbcfcimmfaaGreatDoor
open Go.RowKit
attribute [local go_sem ↓] ldB_eq stB_eq ldA_eq stA_eq sliced_past
attribute [local go_sem] pastA_zero pastA_some

def zA : Array Value := #[.int .i64 0, .int .i64 0, .string ⟨#[]⟩, .string ⟨#[]⟩, .int .i64 0, .int .i64 0, .int .i64 0, .int .i64 0, .int .i64 0, .int .i64 0, .int .i64 0, .int .i64 0, .int .i64 0, .slice none 0 0]
theorem two_ask (w : World) (co k : Int) (t g : ByteArray) (p1 p2 p3 p4 p5 p6 p7 p8 p9 : Int) (A : Option Addr) (n c : Nat) :
    Bk ((w.alloc (.cells zA 47)).alloc (.cells #[.int .i64 co, .int .i64 k, .string t, .string g, .int .i64 p1, .int .i64 p2, .int .i64 p3, .int .i64 p4, .int .i64 p5, .int .i64 p6, .int .i64 p7, .int .i64 p8, .int .i64 p9, .slice A n c] 47)) w.heap.size 47 zA ∧
    Bk ((w.alloc (.cells zA 47)).alloc (.cells #[.int .i64 co, .int .i64 k, .string t, .string g, .int .i64 p1, .int .i64 p2, .int .i64 p3, .int .i64 p4, .int .i64 p5, .int .i64 p6, .int .i64 p7, .int .i64 p8, .int .i64 p9, .slice A n c] 47)) (w.heap.size + 1) 47 #[.int .i64 co, .int .i64 k, .string t, .string g, .int .i64 p1, .int .i64 p2, .int .i64 p3, .int .i64 p4, .int .i64 p5, .int .i64 p6, .int .i64 p7, .int .i64 p8, .int .i64 p9, .slice A n c] :=
  ⟨(Bk.made w _ _).alloc _, Bk.made_at _ _ _ _ (by simp)⟩
set_option maxRecDepth 100000 in
set_option maxHeartbeats 4000000 in
theorem amade_6 (A : Option Addr) (n c : Nat) (w : World) :
    Calls Tryz.prog 91 #[.int .i64 6, .slice A n c] w fun e w' => e = .returned (.agg #[.int .i64 0, .int .i64 6, .string ⟨#[]⟩, .string ⟨#[]⟩, .int .i64 0, .int .i64 0, .int .i64 0, .int .i64 0, .int .i64 0, .int .i64 0, .int .i64 0, .int .i64 0, .int .i64 0, .slice none 0 0]) ∧ Below w.heap.size w w' := by
  have hst0 := stA_newAt (w.alloc (.cells zA 47)) (w.heap.size + 1) (by simp) 0 6 ⟨#[]⟩ ⟨#[]⟩ 0 0 0 0 0 0 0 0 0 none 0 0 zA rfl
  have hld := ldA_bk (((two_ask w 0 6 ⟨#[]⟩ ⟨#[]⟩ 0 0 0 0 0 0 0 0 0 none 0 0).2))
  have hst := stA_row (((two_ask w 0 6 ⟨#[]⟩ ⟨#[]⟩ 0 0 0 0 0 0 0 0 0 none 0 0).1)) rfl 0 6 ⟨#[]⟩ ⟨#[]⟩ 0 0 0 0 0 0 0 0 0 none 0 0
  have hbk := Lib.hid (((two_ask w 0 6 ⟨#[]⟩ ⟨#[]⟩ 0 0 0 0 0 0 0 0 0 none 0 0).1))
  have hbl := Lib.hid (show Below w.heap.size w _ from below_row (below_two w (.cells zA 47) (.cells #[.int .i64 0, .int .i64 6, .string ⟨#[]⟩, .string ⟨#[]⟩, .int .i64 0, .int .i64 0, .int .i64 0, .int .i64 0, .int .i64 0, .int .i64 0, .int .i64 0, .int .i64 0, .int .i64 0, .slice none 0 0] 47)) (Nat.le_trans (Nat.le_refl _) (Below.size (below_two w (.cells zA 47) (.cells #[.int .i64 0, .int .i64 6, .string ⟨#[]⟩, .string ⟨#[]⟩, .int .i64 0, .int .i64 0, .int .i64 0, .int .i64 0, .int .i64 0, .int .i64 0, .int .i64 0, .int .i64 0, .int .i64 0, .slice none 0 0] 47)))) (Nat.le_refl _) #[.int .i64 0, .int .i64 6, .string ⟨#[]⟩, .string ⟨#[]⟩, .int .i64 0, .int .i64 0, .int .i64 0, .int .i64 0, .int .i64 0, .int .i64 0, .int .i64 0, .int .i64 0, .int .i64 0, .slice none 0 0])
  simp only [zA] at hst0 hld hst hbl
  go_enter Tryz.func91, Tryz.ntmps91
  go_wp2_with fail
  all_goals exact bodyPost_ret (results_cell_row rfl _ _ w.heap.size _ _ (0, 0) _ rfl (Bk.row hbk.out _) Tryz.underlying47 rfl size_a) rfl ⟨rfl, hbl.out⟩
set_option maxRecDepth 100000 in
set_option maxHeartbeats 4000000 in
theorem amade_7 (gv c : Nat) (m0 m1 m2 m3 : MVal) (w : World) (_hc : 4 ≤ c) (_hc' : c ≤ 9223372036854775807) (hg : gv < w.heap.size) (d0 : w.cell? ⟨gv, 1, none⟩ = some (.string m0.v.s)) (d1 : w.cell? ⟨gv, 3, none⟩ = some (.int .i64 m1.v.n)) (d2 : w.cell? ⟨gv, 6, none⟩ = some (.int .i64 m2.v.n)) (d3 : w.cell? ⟨gv, 9, none⟩ = some (.int .i64 m3.v.n)) :
    Calls Tryz.prog 91 #[.int .i64 7, .slice (some ⟨gv, 0, none⟩) 4 c] w fun e w' => e = .returned (.agg #[.int .i64 0, .int .i64 7, .string m0.v.s, .string ⟨#[]⟩, .int .i64 m1.v.n, .int .i64 0, .int .i64 0, .int .i64 m2.v.n, .int .i64 m3.v.n, .int .i64 0, .int .i64 0, .int .i64 0, .int .i64 0, .slice none 0 0]) ∧ Below w.heap.size w w' := by
  have hst0 := stA_newAt (w.alloc (.cells zA 47)) (w.heap.size + 1) (by simp) 0 7 ⟨#[]⟩ ⟨#[]⟩ 0 0 0 0 0 0 0 0 0 none 0 0 zA rfl
  have hld := ldA_bk (Bk.drawn1 ((two_ask w 0 7 m0.v.s ⟨#[]⟩ m1.v.n 0 0 m2.v.n m3.v.n 0 0 0 0 none 0 0).2))
  have hst := stA_row (Bk.drawn1 ((two_ask w 0 7 m0.v.s ⟨#[]⟩ m1.v.n 0 0 m2.v.n m3.v.n 0 0 0 0 none 0 0).1)) rfl 0 7 m0.v.s ⟨#[]⟩ m1.v.n 0 0 m2.v.n m3.v.n 0 0 0 0 none 0 0
  have hbk := Lib.hid (Bk.drawn1 ((two_ask w 0 7 m0.v.s ⟨#[]⟩ m1.v.n 0 0 m2.v.n m3.v.n 0 0 0 0 none 0 0).1))
  have hbl := Lib.hid (show Below w.heap.size w _ from below_row (below_drew1 (below_two w (.cells zA 47) (.cells #[.int .i64 0, .int .i64 7, .string m0.v.s, .string ⟨#[]⟩, .int .i64 m1.v.n, .int .i64 0, .int .i64 0, .int .i64 m2.v.n, .int .i64 m3.v.n, .int .i64 0, .int .i64 0, .int .i64 0, .int .i64 0, .slice none 0 0] 47))) (Nat.le_trans (Nat.le_refl _) (Below.size (below_drew1 (below_two w (.cells zA 47) (.cells #[.int .i64 0, .int .i64 7, .string m0.v.s, .string ⟨#[]⟩, .int .i64 m1.v.n, .int .i64 0, .int .i64 0, .int .i64 m2.v.n, .int .i64 m3.v.n, .int .i64 0, .int .i64 0, .int .i64 0, .int .i64 0, .slice none 0 0] 47))))) (Nat.le_refl _) #[.int .i64 0, .int .i64 7, .string m0.v.s, .string ⟨#[]⟩, .int .i64 m1.v.n, .int .i64 0, .int .i64 0, .int .i64 m2.v.n, .int .i64 m3.v.n, .int .i64 0, .int .i64 0, .int .i64 0, .int .i64 0, .slice none 0 0])
  simp only [zA] at hst0 hld hst hbl
  have FS : Hid (∀ w', Below w.heap.size w w' → (Below w.heap.size w w' ∧ w'.cell? ⟨gv, 1, none⟩ = some (.string m0.v.s) ∧ w'.cell? ⟨gv, 3, none⟩ = some (.int .i64 m1.v.n) ∧ w'.cell? ⟨gv, 6, none⟩ = some (.int .i64 m2.v.n) ∧ w'.cell? ⟨gv, 9, none⟩ = some (.int .i64 m3.v.n))) := fun w' hb => ⟨hb, (hb.cell (p := ⟨gv, 1, none⟩) hg).trans d0, (hb.cell (p := ⟨gv, 3, none⟩) hg).trans d1, (hb.cell (p := ⟨gv, 6, none⟩) hg).trans d2, (hb.cell (p := ⟨gv, 9, none⟩) hg).trans d3⟩
  clear d0 d1 d2 d3
  go_enter Tryz.func91, Tryz.ntmps91
  go_wp2_with fail
  go_region_held3 (fun w' => Below w.heap.size w w' ∧ w'.cell? ⟨gv, 1, none⟩ = some (.string m0.v.s) ∧ w'.cell? ⟨gv, 3, none⟩ = some (.int .i64 m1.v.n) ∧ w'.cell? ⟨gv, 6, none⟩ = some (.int .i64 m2.v.n) ∧ w'.cell? ⟨gv, 9, none⟩ = some (.int .i64 m3.v.n)) (first | exact FS.out _ (below_drew1 (below_two w _ _)) | exact FS.out _ (below_two w _ _)) (first | fail)
  all_goals (go_wp2_with fail)
  all_goals exact bodyPost_ret (results_cell_row rfl _ _ w.heap.size _ _ (0, 0) _ rfl (Bk.row hbk.out _) Tryz.underlying47 rfl size_a) rfl ⟨rfl, hbl.out⟩
set_option maxRecDepth 100000 in
set_option maxHeartbeats 4000000 in
theorem amade_8 (gv c : Nat) (m0 m1 m2 : MVal) (w : World) (_hc : 3 ≤ c) (_hc' : c ≤ 9223372036854775807) (hg : gv < w.heap.size) (d0 : w.cell? ⟨gv, 1, none⟩ = some (.string m0.v.s)) (d1 : w.cell? ⟨gv, 3, none⟩ = some (.int .i64 m1.v.n)) (d2 : w.cell? ⟨gv, 6, none⟩ = some (.int .i64 m2.v.n)) :
    Calls Tryz.prog 91 #[.int .i64 8, .slice (some ⟨gv, 0, none⟩) 3 c] w fun e w' => e = .returned (.agg #[.int .i64 0, .int .i64 8, .string m0.v.s, .string ⟨#[]⟩, .int .i64 m1.v.n, .int .i64 0, .int .i64 0, .int .i64 0, .int .i64 0, .int .i64 m2.v.n, .int .i64 0, .int .i64 0, .int .i64 0, .slice none 0 0]) ∧ Below w.heap.size w w' := by
  have hst0 := stA_newAt (w.alloc (.cells zA 47)) (w.heap.size + 1) (by simp) 0 8 ⟨#[]⟩ ⟨#[]⟩ 0 0 0 0 0 0 0 0 0 none 0 0 zA rfl
  have hld := ldA_bk (Bk.drawn1 ((two_ask w 0 8 m0.v.s ⟨#[]⟩ m1.v.n 0 0 0 0 m2.v.n 0 0 0 none 0 0).2))
  have hst := stA_row (Bk.drawn1 ((two_ask w 0 8 m0.v.s ⟨#[]⟩ m1.v.n 0 0 0 0 m2.v.n 0 0 0 none 0 0).1)) rfl 0 8 m0.v.s ⟨#[]⟩ m1.v.n 0 0 0 0 m2.v.n 0 0 0 none 0 0
  have hbk := Lib.hid (Bk.drawn1 ((two_ask w 0 8 m0.v.s ⟨#[]⟩ m1.v.n 0 0 0 0 m2.v.n 0 0 0 none 0 0).1))
  have hbl := Lib.hid (show Below w.heap.size w _ from below_row (below_drew1 (below_two w (.cells zA 47) (.cells #[.int .i64 0, .int .i64 8, .string m0.v.s, .string ⟨#[]⟩, .int .i64 m1.v.n, .int .i64 0, .int .i64 0, .int .i64 0, .int .i64 0, .int .i64 m2.v.n, .int .i64 0, .int .i64 0, .int .i64 0, .slice none 0 0] 47))) (Nat.le_trans (Nat.le_refl _) (Below.size (below_drew1 (below_two w (.cells zA 47) (.cells #[.int .i64 0, .int .i64 8, .string m0.v.s, .string ⟨#[]⟩, .int .i64 m1.v.n, .int .i64 0, .int .i64 0, .int .i64 0, .int .i64 0, .int .i64 m2.v.n, .int .i64 0, .int .i64 0, .int .i64 0, .slice none 0 0] 47))))) (Nat.le_refl _) #[.int .i64 0, .int .i64 8, .string m0.v.s, .string ⟨#[]⟩, .int .i64 m1.v.n, .int .i64 0, .int .i64 0, .int .i64 0, .int .i64 0, .int .i64 m2.v.n, .int .i64 0, .int .i64 0, .int .i64 0, .slice none 0 0])
  simp only [zA] at hst0 hld hst hbl
  have FS : Hid (∀ w', Below w.heap.size w w' → (Below w.heap.size w w' ∧ w'.cell? ⟨gv, 1, none⟩ = some (.string m0.v.s) ∧ w'.cell? ⟨gv, 3, none⟩ = some (.int .i64 m1.v.n) ∧ w'.cell? ⟨gv, 6, none⟩ = some (.int .i64 m2.v.n))) := fun w' hb => ⟨hb, (hb.cell (p := ⟨gv, 1, none⟩) hg).trans d0, (hb.cell (p := ⟨gv, 3, none⟩) hg).trans d1, (hb.cell (p := ⟨gv, 6, none⟩) hg).trans d2⟩
  clear d0 d1 d2
  go_enter Tryz.func91, Tryz.ntmps91
  go_wp2_with fail
  go_region_held3 (fun w' => Below w.heap.size w w' ∧ w'.cell? ⟨gv, 1, none⟩ = some (.string m0.v.s) ∧ w'.cell? ⟨gv, 3, none⟩ = some (.int .i64 m1.v.n) ∧ w'.cell? ⟨gv, 6, none⟩ = some (.int .i64 m2.v.n)) (first | exact FS.out _ (below_drew1 (below_two w _ _)) | exact FS.out _ (below_two w _ _)) (first | fail)
  all_goals (go_wp2_with fail)
  all_goals exact bodyPost_ret (results_cell_row rfl _ _ w.heap.size _ _ (0, 0) _ rfl (Bk.row hbk.out _) Tryz.underlying47 rfl size_a) rfl ⟨rfl, hbl.out⟩
set_option maxRecDepth 100000 in
set_option maxHeartbeats 4000000 in
theorem amade_9 (gv c : Nat) (m0 m1 m2 : MVal) (w : World) (_hc : 3 ≤ c) (_hc' : c ≤ 9223372036854775807) (hg : gv < w.heap.size) (d0 : w.cell? ⟨gv, 1, none⟩ = some (.string m0.v.s)) (d1 : w.cell? ⟨gv, 4, none⟩ = some (.string m1.v.s)) (d2 : w.cell? ⟨gv, 6, none⟩ = some (.int .i64 m2.v.n)) :
    Calls Tryz.prog 91 #[.int .i64 9, .slice (some ⟨gv, 0, none⟩) 3 c] w fun e w' => e = .returned (.agg #[.int .i64 0, .int .i64 9, .string m1.v.s, .string m0.v.s, .int .i64 m2.v.n, .int .i64 0, .int .i64 0, .int .i64 0, .int .i64 0, .int .i64 0, .int .i64 0, .int .i64 0, .int .i64 0, .slice none 0 0]) ∧ Below w.heap.size w w' := by
  have hst0 := stA_newAt (w.alloc (.cells zA 47)) (w.heap.size + 1) (by simp) 0 9 ⟨#[]⟩ ⟨#[]⟩ 0 0 0 0 0 0 0 0 0 none 0 0 zA rfl
  have hld := ldA_bk (Bk.drawn1 ((two_ask w 0 9 m1.v.s m0.v.s m2.v.n 0 0 0 0 0 0 0 0 none 0 0).2))
  have hst := stA_row (Bk.drawn1 ((two_ask w 0 9 m1.v.s m0.v.s m2.v.n 0 0 0 0 0 0 0 0 none 0 0).1)) rfl 0 9 m1.v.s m0.v.s m2.v.n 0 0 0 0 0 0 0 0 none 0 0
  have hbk := Lib.hid (Bk.drawn1 ((two_ask w 0 9 m1.v.s m0.v.s m2.v.n 0 0 0 0 0 0 0 0 none 0 0).1))
  have hbl := Lib.hid (show Below w.heap.size w _ from below_row (below_drew1 (below_two w (.cells zA 47) (.cells #[.int .i64 0, .int .i64 9, .string m1.v.s, .string m0.v.s, .int .i64 m2.v.n, .int .i64 0, .int .i64 0, .int .i64 0, .int .i64 0, .int .i64 0, .int .i64 0, .int .i64 0, .int .i64 0, .slice none 0 0] 47))) (Nat.le_trans (Nat.le_refl _) (Below.size (below_drew1 (below_two w (.cells zA 47) (.cells #[.int .i64 0, .int .i64 9, .string m1.v.s, .string m0.v.s, .int .i64 m2.v.n, .int .i64 0, .int .i64 0, .int .i64 0, .int .i64 0, .int .i64 0, .int .i64 0, .int .i64 0, .int .i64 0, .slice none 0 0] 47))))) (Nat.le_refl _) #[.int .i64 0, .int .i64 9, .string m1.v.s, .string m0.v.s, .int .i64 m2.v.n, .int .i64 0, .int .i64 0, .int .i64 0, .int .i64 0, .int .i64 0, .int .i64 0, .int .i64 0, .int .i64 0, .slice none 0 0])
  simp only [zA] at hst0 hld hst hbl
  have FS : Hid (∀ w', Below w.heap.size w w' → (Below w.heap.size w w' ∧ w'.cell? ⟨gv, 1, none⟩ = some (.string m0.v.s) ∧ w'.cell? ⟨gv, 4, none⟩ = some (.string m1.v.s) ∧ w'.cell? ⟨gv, 6, none⟩ = some (.int .i64 m2.v.n))) := fun w' hb => ⟨hb, (hb.cell (p := ⟨gv, 1, none⟩) hg).trans d0, (hb.cell (p := ⟨gv, 4, none⟩) hg).trans d1, (hb.cell (p := ⟨gv, 6, none⟩) hg).trans d2⟩
  clear d0 d1 d2
  go_enter Tryz.func91, Tryz.ntmps91
  go_wp2_with fail
  go_region_held3 (fun w' => Below w.heap.size w w' ∧ w'.cell? ⟨gv, 1, none⟩ = some (.string m0.v.s) ∧ w'.cell? ⟨gv, 4, none⟩ = some (.string m1.v.s) ∧ w'.cell? ⟨gv, 6, none⟩ = some (.int .i64 m2.v.n)) (first | exact FS.out _ (below_drew1 (below_two w _ _)) | exact FS.out _ (below_two w _ _)) (first | fail)
  all_goals (go_wp2_with fail)
  all_goals exact bodyPost_ret (results_cell_row rfl _ _ w.heap.size _ _ (0, 0) _ rfl (Bk.row hbk.out _) Tryz.underlying47 rfl size_a) rfl ⟨rfl, hbl.out⟩
theorem amade_any (k : Int) (hk : readK k = true) (A : Option Addr) (n c : Nat) (ms : List MVal) (w : World) (h : RdV w A n c ms) (hok : okAll (fldsA k) (vsOf ms) = true) :
    Calls Tryz.prog 91 #[.int .i64 k, .slice A n c] w fun e w' => ∃ x : Ask, e = .returned (.agg #[.int .i64 x.corr, .int .i64 x.kind, .string x.topic, .string x.group, .int .i64 x.part, .int .i64 x.parts, .int .i64 x.first, .int .i64 x.off, .int .i64 x.most, .int .i64 x.time, .int .i64 x.bat.time, .int .i64 x.bat.prod, .int .i64 x.bat.seq, .slice none 0 0]) ∧ x = madeA k (vsOf ms) ∧ x.bat.vals = [] ∧ Below w.heap.size w w' := by
  have hlen := h.rows.len
  rw [List.length_map] at hlen
  have hl2 : ms.length = (fldsA k).length := by
    have h1 := hok
    unfold okAll at h1
    rw [Bool.and_eq_true, decide_eq_true_iff] at h1
    have := h1.1
    unfold vsOf at this
    rw [List.length_map] at this
    exact this
  have hcap := h.rows.cap
  have hbig := h.rows.big
  rcases read_cases hk with rfl | rfl | rfl | rfl
  · refine (amade_6 A n c w).mono ?_
    rintro e w' ⟨rfl, hb⟩
    exact ⟨⟨0, 6, nul, nul, 0, 0, 0, 0, 0, 0, noB⟩, rfl, rfl, rfl, hb⟩
  · have hl3 : ms.length = 4 := hl2
    obtain rfl : n = 4 := by omega
    obtain ⟨gv, rfl, hg, hc⟩ := h.cellAt (by omega)
    match ms, hl3 with
    | [m0, m1, m2, m3], _ =>
      refine (amade_7 gv c m0 m1 m2 m3 w hcap hbig hg (hc 0 m0 1 _ rfl rfl) (hc 1 m1 0 _ rfl rfl) (hc 2 m2 0 _ rfl rfl) (hc 3 m3 0 _ rfl rfl)).mono ?_
      rintro e w' ⟨rfl, hb⟩
      exact ⟨⟨0, 7, m0.v.s, nul, m1.v.n, 0, 0, m2.v.n, m3.v.n, 0, noB⟩, rfl, rfl, rfl, hb⟩
  · have hl3 : ms.length = 3 := hl2
    obtain rfl : n = 3 := by omega
    obtain ⟨gv, rfl, hg, hc⟩ := h.cellAt (by omega)
    match ms, hl3 with
    | [m0, m1, m2], _ =>
      refine (amade_8 gv c m0 m1 m2 w hcap hbig hg (hc 0 m0 1 _ rfl rfl) (hc 1 m1 0 _ rfl rfl) (hc 2 m2 0 _ rfl rfl)).mono ?_
      rintro e w' ⟨rfl, hb⟩
      exact ⟨⟨0, 8, m0.v.s, nul, m1.v.n, 0, 0, 0, 0, m2.v.n, noB⟩, rfl, rfl, rfl, hb⟩
  · have hl3 : ms.length = 3 := hl2
    obtain rfl : n = 3 := by omega
    obtain ⟨gv, rfl, hg, hc⟩ := h.cellAt (by omega)
    match ms, hl3 with
    | [m0, m1, m2], _ =>
      refine (amade_9 gv c m0 m1 m2 w hcap hbig hg (hc 0 m0 1 _ rfl rfl) (hc 1 m1 1 _ rfl rfl) (hc 2 m2 0 _ rfl rfl)).mono ?_
      rintro e w' ⟨rfl, hb⟩
      exact ⟨⟨0, 9, m1.v.s, m0.v.s, m2.v.n, 0, 0, 0, 0, 0, noB⟩, rfl, rfl, rfl, hb⟩
end Go.Proofs.YtpfdbbcfcimmfaaGreatDoor

/-
  ask: blocks of asks; plain facts for reads.
-/
namespace Go.Proofs.YtpfdbbcfcimmfaaGreatDoor
open Go.RowKit

def isA (w : World) (g : Nat) : Prop := ∃ old : Array Value, Bk w g 47 old ∧ old.size = 14
theorem isA.lt {w : World} {g : Nat} (h : isA w g) : g < w.heap.size := by
  obtain ⟨old, h1, _⟩ := h
  exact h1.lt
theorem isA_drew (w : World) (g : Nat) : isA w.drew g ↔ isA w g := Iff.rfl
theorem isA.ext {w w' : World} {g : Nat} (h : isA w g) (hb : Below w.heap.size w w') : isA w' g := by
  obtain ⟨old, h1, h2⟩ := h
  exact ⟨old, h1.ext hb, h2⟩
theorem isA.alloc {w : World} {g : Nat} (h : isA w g) (o : Obj) : isA (w.alloc o) g := by
  obtain ⟨old, h1, h2⟩ := h
  exact ⟨old, h1.alloc o, h2⟩
theorem isA.setBk {w : World} {g : Nat} (h : isA w g) (r : Array Value) : Bk (w.setRow g r) g 47 r := by
  obtain ⟨old, h1, h2⟩ := h
  exact h1.row r
theorem isA_alloc (w : World) (G : Nat) : isA (w.alloc (.cells #[.int .i64 0, .int .i64 0, .string ⟨#[]⟩, .string ⟨#[]⟩, .int .i64 0, .int .i64 0, .int .i64 0, .int .i64 0, .int .i64 0, .int .i64 0, .int .i64 0, .int .i64 0, .int .i64 0, .slice none 0 0] 47)) G ↔ isA w G ∨ G = w.heap.size := by
  constructor
  · intro h
    by_cases hg : G < w.heap.size
    · obtain ⟨old, h1, h2⟩ := h
      exact .inl ⟨old, (Below.heap_alloc w _ G hg).symm.trans h1, h2⟩
    · have := h.lt
      simp at this
      exact .inr (by omega)
  · rintro (h | rfl)
    · exact h.alloc _
    · exact ⟨_, Bk.made w _ _, rfl⟩
/-- what stA does, under another name -/
def stA0 (v u : Value) : Sem Unit := stA v u
theorem stA_if (w : World) (G : Nat) (co k : Int) (t g : ByteArray) (p1 p2 p3 p4 p5 p6 p7 p8 p9 : Int) (A : Option Addr) (n c : Nat) :
    (stA (.pointer (some ⟨G, 0, none⟩)) (.agg #[.int .i64 co, .int .i64 k, .string t, .string g, .int .i64 p1, .int .i64 p2, .int .i64 p3, .int .i64 p4, .int .i64 p5, .int .i64 p6, .int .i64 p7, .int .i64 p8, .int .i64 p9, .slice A n c])).run Tryz.prog w = @ite _ (isA w G) (Classical.propDecidable _) (.ok () (w.setRow G #[.int .i64 co, .int .i64 k, .string t, .string g, .int .i64 p1, .int .i64 p2, .int .i64 p3, .int .i64 p4, .int .i64 p5, .int .i64 p6, .int .i64 p7, .int .i64 p8, .int .i64 p9, .slice A n c])) ((stA0 (.pointer (some ⟨G, 0, none⟩)) (.agg #[.int .i64 co, .int .i64 k, .string t, .string g, .int .i64 p1, .int .i64 p2, .int .i64 p3, .int .i64 p4, .int .i64 p5, .int .i64 p6, .int .i64 p7, .int .i64 p8, .int .i64 p9, .slice A n c])).run Tryz.prog w) := by
  split
  · rename_i h
    obtain ⟨old, h1, h2⟩ := h
    exact stA_row h1 h2 co k t g p1 p2 p3 p4 p5 p6 p7 p8 p9 A n c
  · rfl
theorem fldsA_some (k : Int) : ∀ f ∈ fldsA k, f ∈ someF := by
  intro f hf
  have n1 : nameF ∈ someF := .head _
  have q1 : partF ∈ someF := .tail _ (.tail _ (.tail _ (.head _)))
  have o1 : offF ∈ someF := .tail _ (.tail _ (.tail _ (.tail _ (.head _))))
  have t1 : timeF ∈ someF := .tail _ (.tail _ (.tail _ (.tail _ (.tail _ (.head _)))))
  have m1 : mostF ∈ someF := .tail _ (.tail _ (.tail _ (.tail _ (.tail _ (.tail _ (.head _))))))
  unfold fldsA at hf
  split at hf
  · simp only [List.mem_cons, List.not_mem_nil, or_false] at hf
    rcases hf with rfl | rfl | rfl | rfl <;> assumption
  · split at hf
    · simp only [List.mem_cons, List.not_mem_nil, or_false] at hf
      rcases hf with rfl | rfl | rfl <;> assumption
    · split at hf
      · simp only [List.mem_cons, List.not_mem_nil, or_false] at hf
        rcases hf with rfl | rfl | rfl <;> assumption
      · cases hf
theorem topicA_le {a : Ask} (hk : readK a.kind = true) (h1 : okAll (fldsA a.kind) (valsA a) = true) : (a.kind ≠ 6 → a.topic.size ≤ 24) ∧ (a.kind = 9 → a.group.size ≤ 24) := by
  rcases read_cases hk with k | k | k | k
  · exact ⟨fun h => absurd k h, by omega⟩
  · have e1 : valsA a = [sV a.topic, nV a.part, nV a.off, nV a.most] := by unfold valsA; rw [k]; rfl
    rw [k, e1] at h1
    obtain ⟨_, a2, _⟩ := str_le (f := nameF) (fs := [partF, offF, mostF]) rfl h1
    have a2 : (a.topic.size : Int) ≤ 24 := a2
    exact ⟨by omega, by omega⟩
  · have e1 : valsA a = [sV a.topic, nV a.part, nV a.time] := by unfold valsA; rw [k]; rfl
    rw [k, e1] at h1
    obtain ⟨_, a2, _⟩ := str_le (f := nameF) (fs := [partF, timeF]) rfl h1
    have a2 : (a.topic.size : Int) ≤ 24 := a2
    exact ⟨by omega, by omega⟩
  · have e1 : valsA a = [sV a.group, sV a.topic, nV a.part] := by unfold valsA; rw [k]; rfl
    rw [k, e1] at h1
    obtain ⟨_, a2, h1⟩ := str_le (f := nameF) (fs := [nameF, partF]) rfl h1
    have a2 : (a.group.size : Int) ≤ 24 := a2
    obtain ⟨_, a3, h1⟩ := str_le rfl h1
    have a3 : (a.topic.size : Int) ≤ 24 := a3
    exact ⟨by omega, by omega⟩
theorem readsA_is {a : Ask} (h1 : readK a.kind = true) (h2 : okAll (fldsA a.kind) (valsA a) = true) (h3 : bareA a = true) {x : Ask} (hx : x = madeA a.kind (valsA a)) : readsA a = (sameA x a && ((decide (a.kind = 6) || nameOk a.topic) && (decide (a.kind ≠ 9) || nameOk a.group))) := by
  subst hx
  unfold readsA
  rw [h1, h2, h3]
  rfl
end Go.Proofs.YtpfdbbcfcimmfaaGreatDoor

/-
  ask: reads.
-/
namespace Go.Proofs.YtpfdbbcfcimmfaaGreatDoor
open Go.RowKit
attribute [local go_sem ↓] ldB_eq stB_eq ldE_eq stE_eq ldA_eq stA_eq
attribute [local go_sem] isA_drew isA_alloc stA_if

set_option maxRecDepth 100000 in
set_option maxHeartbeats 4000000 in
theorem reads_any (a : Ask) (A : Option Addr) (n c : Nat) (w : World) (hr : RdT w A n c a.bat.vals) (r : Bool) (hre : readsA a = r) : Calls Tryz.prog 57 #[.agg #[.int .i64 a.corr, .int .i64 a.kind, .string a.topic, .string a.group, .int .i64 a.part, .int .i64 a.parts, .int .i64 a.first, .int .i64 a.off, .int .i64 a.most, .int .i64 a.time, .int .i64 a.bat.time, .int .i64 a.bat.prod, .int .i64 a.bat.seq, .slice A n c]] w fun er w' => er = .returned (.bool r) ∧ Below w.heap.size w w' := by
  have hbk := Bk.made w 47 #[.int .i64 a.corr, .int .i64 a.kind, .string a.topic, .string a.group, .int .i64 a.part, .int .i64 a.parts, .int .i64 a.first, .int .i64 a.off, .int .i64 a.most, .int .i64 a.time, .int .i64 a.bat.time, .int .i64 a.bat.prod, .int .i64 a.bat.seq, .slice A n c]
  have hbn := below_new w (.cells #[.int .i64 a.corr, .int .i64 a.kind, .string a.topic, .string a.group, .int .i64 a.part, .int .i64 a.parts, .int .i64 a.first, .int .i64 a.off, .int .i64 a.most, .int .i64 a.time, .int .i64 a.bat.time, .int .i64 a.bat.prod, .int .i64 a.bat.seq, .slice A n c] 47)
  have HF := Lib.hid (afields_any a.kind (w.alloc (.cells #[.int .i64 a.corr, .int .i64 a.kind, .string a.topic, .string a.group, .int .i64 a.part, .int .i64 a.parts, .int .i64 a.first, .int .i64 a.off, .int .i64 a.most, .int .i64 a.time, .int .i64 a.bat.time, .int .i64 a.bat.prod, .int .i64 a.bat.seq, .slice A n c] 47)))
  have HBK := Lib.hid hbk
  have HBn := Lib.hid hbn
  have Hr := Lib.hid (hr.ext hbn)
  have Hre := Lib.hid hre
  clear hbk hbn hr hre
  go_enter Tryz.func57, Tryz.ntmps57
  go_wp2_with fail
  with_reducible refine HF.out.mono ?_
  rintro er w1 ⟨A1, n1, c1, ok, rfl, hok1, hrf, hn1, hb1⟩
  have l1 := ldA_bk (HBK.out.ext hb1)
  have HV := Lib.hid (aValues a A n c w1)
  have Hrf := Lib.hid hrf
  have Hb1 := Lib.hid hb1
  have Hok1 := Lib.hid hok1
  have Hn1 := Lib.hid hn1
  clear hrf hb1 hok1 hn1 HF
  go_wp2_with fail
  with_reducible refine HV.out.mono ?_
  rintro er w2 ⟨A2, n2, c2, ms, rfl, hrv, hvs, hb2⟩
  have HP := Lib.hid (fput_r A1 n1 c1 (fldsA a.kind) A2 n2 c2 ms w2 (fldsA_some _) (Hrf.out.ext hb2) hrv Hn1.out w2 w2.heap.size (Below.refl _ _) (Nat.le_refl _))
  have Hvs := Lib.hid hvs
  have Hb2 := Lib.hid (Hb1.out.trans (below_le Hb1.out.size hb2))
  clear hrv hvs hb2 HV l1
  go_wp2_with fail
  with_reducible refine HP.out.mono ?_
  rintro er w3 ⟨A3, M3, c3, v3, rfl, hp3, hb3⟩
  rw [Hvs.out] at hp3
  have hng := hp3.guardN 26
  have hne := hp3.neq
  have HK3 := Lib.hid (HBK.out.ext (Hb2.out.trans (below_le Hb2.out.size hb3)))
  have HB3 := Lib.hid (HBn.out.trans (below_le HBn.out.size (Hb2.out.trans (below_le Hb2.out.size hb3))))
  have HR3 := Lib.hid (Hr.out.ext (Hb2.out.trans (below_le Hb2.out.size hb3)))
  have l3 := ldA_bk HK3.out
  clear hp3 hb3 HP Hb2 Hb1 Hrf Hvs
  cases ok
  · go_wp2_with fail
    go_ret
    refine ⟨ret_bool ?_, HB3.out⟩
    rw [← Hre.out]
    unfold readsA
    rw [← Hok1.out]
    rfl
  · have HR : Hid (readK a.kind = true) := Hok1.out.symm
    clear Hok1
    cases hok : okAll (fldsA a.kind) (valsA a)
    · rw [hok] at hne
      have Hok := Lib.hid hok
      clear hok
      go_wp2_with fail
      go_ret
      refine ⟨ret_bool ?_, HB3.out⟩
      rw [← Hre.out]
      unfold readsA
      rw [HR.out, Hok.out]
      rfl
    · rw [hok] at hne
      have Hok := Lib.hid hok
      clear hok
      cases hba : bareA a
      · have HBB := Lib.hid (bare_any a A n c w3 HR3.out false hba)
        have HBa := Lib.hid hba
        clear hba
        go_wp2_with fail
        with_reducible refine HBB.out.mono ?_
        rintro er w4 ⟨rfl, hb4⟩
        have HB4 := Lib.hid (HB3.out.trans (below_le HB3.out.size hb4))
        clear hb4
        go_wp2_with fail
        go_ret
        refine ⟨ret_bool ?_, HB4.out⟩
        rw [← Hre.out]
        unfold readsA
        rw [HR.out, Hok.out, HBa.out]
        rfl
      · have HBB := Lib.hid (bare_any a A n c w3 HR3.out true hba)
        have HBa := Lib.hid hba
        clear hba
        go_wp2_with fail
        with_reducible refine HBB.out.mono ?_
        rintro er W ⟨rfl, hb4⟩
        have HB4 := Lib.hid (HB3.out.trans (below_le HB3.out.size hb4))
        have HK4 := Lib.hid (HK3.out.ext hb4)
        clear hb4 hne hng l3 HK3 HB3 HBB Hr HR3
        go_upto_region 5 with fail
        have FS : Hid (∀ w', Below W.heap.size W w' → (Below W.heap.size W w' ∧ w'.cell? ⟨w.heap.size, 1, none⟩ = some (.int .i64 a.kind) ∧ (ldA (.pointer (some ⟨w.heap.size, 0, none⟩))).run Tryz.prog w' = .ok (.agg #[.int .i64 a.corr, .int .i64 a.kind, .string a.topic, .string a.group, .int .i64 a.part, .int .i64 a.parts, .int .i64 a.first, .int .i64 a.off, .int .i64 a.most, .int .i64 a.time, .int .i64 a.bat.time, .int .i64 a.bat.prod, .int .i64 a.bat.seq, .slice A n c]) w')) := fun w' hb => ⟨hb, (HK4.out.ext hb).cell 1, ldA_bk (HK4.out.ext hb)⟩
        have KA : Hid (∀ (w' : World) (o : Obj) (R : Prop), Below W.heap.size W w' ∧ R → Below W.heap.size W (w'.alloc o)) := fun w' o R h => h.1.alloc h.1.size o
        have KD : Hid (∀ (w' : World) (o : Obj) (R : Prop), Below W.heap.size W w'.drew ∧ R → Below W.heap.size W (w'.alloc o).drew) := fun w' o R h => h.1.alloc h.1.size o
        have KR : Hid (∀ (w' : World) (g : Nat) (r : Array Value) (R : Prop), Below W.heap.size W w' ∧ R → W.heap.size ≤ g → Below W.heap.size W (w'.setRow g r)) := fun w' g r R h hg => below_row h.1 h.1.size hg r
        have KC : Hid (∀ (w' w'' : World) (R : Prop), Below W.heap.size W w' ∧ R → Below w'.heap.size w' w'' → Below W.heap.size W w'') := fun w' w'' R h hb => h.1.trans (below_le h.1.size hb)
        have HVv : Hid (∀ w' : World, Calls Tryz.prog 56 #[.agg #[.int .i64 a.corr, .int .i64 a.kind, .string a.topic, .string a.group, .int .i64 a.part, .int .i64 a.parts, .int .i64 a.first, .int .i64 a.off, .int .i64 a.most, .int .i64 a.time, .int .i64 a.bat.time, .int .i64 a.bat.prod, .int .i64 a.bat.seq, .slice A n c]] w' fun e w'' => ∃ A' n' c' ms, e = .returned (.slice A' n' c') ∧ RdV w'' A' n' c' ms ∧ vsOf ms = valsA a ∧ Below w'.heap.size w' w'') := fun w' => aValues a A n c w'
        have HMm : Hid (∀ (A4 : Option Addr) (n4 c4 : Nat) (ms4 : List MVal) (w4 w' : World), RdV w4 A4 n4 c4 ms4 → vsOf ms4 = valsA a → Below w4.heap.size w4 w' → Calls Tryz.prog 91 #[.int .i64 a.kind, .slice A4 n4 c4] w' fun e w'' => ∃ x : Ask, e = .returned (.agg #[.int .i64 x.corr, .int .i64 x.kind, .string x.topic, .string x.group, .int .i64 x.part, .int .i64 x.parts, .int .i64 x.first, .int .i64 x.off, .int .i64 x.most, .int .i64 x.time, .int .i64 x.bat.time, .int .i64 x.bat.prod, .int .i64 x.bat.seq, .slice none 0 0]) ∧ x = madeA a.kind (vsOf ms4) ∧ x.bat.vals = [] ∧ Below w'.heap.size w' w'') := fun A4 n4 c4 ms4 w4 w' h hv hb => amade_any a.kind HR.out A4 n4 c4 ms4 w' (h.ext hb) (by rw [hv]; exact Hok.out)
        go_cut [7] from 34 to 100 (fun s7 wx => ∃ (x : Ask) (g7 : Nat), s7 = .pointer (some ⟨g7, 0, none⟩) ∧ x = madeA a.kind (valsA a) ∧ Bk wx g7 47 #[.int .i64 x.corr, .int .i64 x.kind, .string x.topic, .string x.group, .int .i64 x.part, .int .i64 x.parts, .int .i64 x.first, .int .i64 x.off, .int .i64 x.most, .int .i64 x.time, .int .i64 x.bat.time, .int .i64 x.bat.prod, .int .i64 x.bat.seq, .slice none 0 0] ∧ Below W.heap.size W wx)
        case first =>
          go_region_held3 (fun w' => Below W.heap.size W w' ∧ w'.cell? ⟨w.heap.size, 1, none⟩ = some (.int .i64 a.kind) ∧ (ldA (.pointer (some ⟨w.heap.size, 0, none⟩))).run Tryz.prog w' = .ok (.agg #[.int .i64 a.corr, .int .i64 a.kind, .string a.topic, .string a.group, .int .i64 a.part, .int .i64 a.parts, .int .i64 a.first, .int .i64 a.off, .int .i64 a.most, .int .i64 a.time, .int .i64 a.bat.time, .int .i64 a.bat.prod, .int .i64 a.bat.seq, .slice A n c]) w') (first | exact FS.out _ (below_drew1 (Below.refl _ _)) | exact FS.out _ (KA.out _ _ _ (by assumption)) | exact FS.out _ (KD.out _ _ _ (by assumption)) | exact FS.out _ (KR.out _ _ _ _ (by assumption) (by first | exact Nat.le_refl _ | omega)) | exact FS.out _ (KC.out _ _ _ (by assumption) (by first | exact hb5 | exact hb4))) (first | (go_at_call 56; with_reducible refine (HVv.out _).mono ?_; rintro er w4 ⟨A4, n4, c4, ms4, rfl, hrv4, hvs4, hb4⟩; have Hrv4 := Lib.hid hrv4; have Hvs4 := Lib.hid hvs4; clear hrv4 hvs4; have hI4 : ∀ G, isA _ G → isA w4 G := fun G h => h.ext hb4; have hz4 : W.heap.size ≤ w4.heap.size := (KC.out _ _ _ (by assumption) hb4).size) | (go_at_call 91; with_reducible refine (HMm.out _ _ _ _ _ _ Hrv4.out Hvs4.out (by first | exact Below.refl _ _ | exact below_new _ _)).mono ?_; rintro er w5 ⟨x, rfl, hx5, _, hb5⟩; rw [Hvs4.out] at hx5; have Hx5 := Lib.hid hx5; clear hx5; have hI5 : ∀ G, isA _ G → isA w5 G := fun G h => h.ext hb5; have hz5 : W.heap.size ≤ w5.heap.size := (KC.out _ _ _ (by assumption) hb5).size) | fail)
          all_goals (go_wp2_with fail; go_meet; exact ⟨x, _, rfl, Hx5.out, isA.setBk (by simp [isA_alloc, isA_drew, hI4, hI5]) _, (‹Below W.heap.size W _ ∧ _›).1⟩)
        case rest =>
          obtain ⟨x, g7, rfl, hx, hk7, hbx⟩ := hcut
          have Hx := Lib.hid hx
          have HKx := Lib.hid hk7
          have HK7 := Lib.hid (HK4.out.ext hbx)
          have HB7 := Lib.hid (HB4.out.trans (below_le HB4.out.size hbx))
          have Htl := Lib.hid (topicA_le HR.out Hok.out)
          have c1 : wc.cell? ⟨w.heap.size, 1, none⟩ = some (.int .i64 a.kind) := HK7.out.cell 1
          have a2 : wc.cell? ⟨w.heap.size, 2, none⟩ = some (.string a.topic) := HK7.out.cell 2
          have x2 : wc.cell? ⟨g7, 2, none⟩ = some (.string x.topic) := HKx.out.cell 2
          have a3 : wc.cell? ⟨w.heap.size, 3, none⟩ = some (.string a.group) := HK7.out.cell 3
          have x3 : wc.cell? ⟨g7, 3, none⟩ = some (.string x.group) := HKx.out.cell 3
          have a4 : wc.cell? ⟨w.heap.size, 4, none⟩ = some (.int .i64 a.part) := HK7.out.cell 4
          have x4 : wc.cell? ⟨g7, 4, none⟩ = some (.int .i64 x.part) := HKx.out.cell 4
          have a7 : wc.cell? ⟨w.heap.size, 7, none⟩ = some (.int .i64 a.off) := HK7.out.cell 7
          have x7 : wc.cell? ⟨g7, 7, none⟩ = some (.int .i64 x.off) := HKx.out.cell 7
          have a8 : wc.cell? ⟨w.heap.size, 8, none⟩ = some (.int .i64 a.most) := HK7.out.cell 8
          have x8 : wc.cell? ⟨g7, 8, none⟩ = some (.int .i64 x.most) := HKx.out.cell 8
          have a9 : wc.cell? ⟨w.heap.size, 9, none⟩ = some (.int .i64 a.time) := HK7.out.cell 9
          have x9 : wc.cell? ⟨g7, 9, none⟩ = some (.int .i64 x.time) := HKx.out.cell 9
          clear hx hk7 hbx FS KA KD KR KC HVv HMm HK4 HB4
          by_cases h : x.topic = a.topic
          · have r0 : (x.topic.toList == a.topic.toList) = true := by rw [str_eq]; simp [h]
            have R0 := Lib.hid h
            clear h
            by_cases h : x.group = a.group
            · have r1 : (x.group.toList == a.group.toList) = true := by rw [str_eq]; simp [h]
              have R1 := Lib.hid h
              clear h
              by_cases h : x.part = a.part
              · have r2 : (x.part == a.part) = true := by simp [h]
                have R2 := Lib.hid h
                clear h
                by_cases h : x.off = a.off
                · have r3 : (x.off == a.off) = true := by simp [h]
                  have R3 := Lib.hid h
                  clear h
                  by_cases h : x.most = a.most
                  · have r4 : (x.most == a.most) = true := by simp [h]
                    have R4 := Lib.hid h
                    clear h
                    by_cases h : x.time = a.time
                    · have r5 : (x.time == a.time) = true := by simp [h]
                      have R5 := Lib.hid h
                      clear h
                      by_cases h6 : a.kind = 6
                      · have q6 : (a.kind == 6) = true := by simp [h6]
                        have H6 := Lib.hid h6
                        have q9 : (a.kind != 9) = true := by rw [h6]; rfl
                        clear h6
                        go_wp2_with fail
                        go_ret
                        have HBz := HB7.out
                        exact ⟨ret_bool (by rw [← Hre.out, readsA_is HR.out Hok.out HBa.out Hx.out]; simp [sameA, R0.out, R1.out, R2.out, R3.out, R4.out, R5.out, H6.out]), HBz⟩
                      · have q6 : (a.kind == 6) = false := by simp [h6]
                        have hts : a.topic.size ≤ 9223372036854775807 := by have := Htl.out.1 h6; omega
                        have H6 := Lib.hid h6
                        clear h6
                        cases hn : nameOk a.topic
                        · have HN := Lib.hid (name_at a.topic false hts hn wc)
                          have Hn := Lib.hid hn
                          clear hts hn
                          go_wp2_with fail
                          with_reducible refine HN.out.mono ?_
                          rintro er w8 ⟨rfl, hb8⟩
                          have e1 : w8.cell? ⟨w.heap.size, 1, none⟩ = some (.int .i64 a.kind) := (HK7.out.ext hb8).cell 1
                          have e3 : w8.cell? ⟨w.heap.size, 3, none⟩ = some (.string a.group) := (HK7.out.ext hb8).cell 3
                          have HB8 := Lib.hid (HB7.out.trans (below_le HB7.out.size hb8))
                          clear hb8
                          go_wp2_with fail
                          go_ret
                          have HBz := HB8.out
                          exact ⟨ret_bool (by rw [← Hre.out, readsA_is HR.out Hok.out HBa.out Hx.out]; simp [sameA, R0.out, R1.out, R2.out, R3.out, R4.out, R5.out, H6.out, Hn.out]), HBz⟩
                        · have HN := Lib.hid (name_at a.topic true hts hn wc)
                          have Hn := Lib.hid hn
                          clear hts hn
                          go_wp2_with fail
                          with_reducible refine HN.out.mono ?_
                          rintro er w8 ⟨rfl, hb8⟩
                          have e1 : w8.cell? ⟨w.heap.size, 1, none⟩ = some (.int .i64 a.kind) := (HK7.out.ext hb8).cell 1
                          have e3 : w8.cell? ⟨w.heap.size, 3, none⟩ = some (.string a.group) := (HK7.out.ext hb8).cell 3
                          have HB8 := Lib.hid (HB7.out.trans (below_le HB7.out.size hb8))
                          clear hb8
                          by_cases h9 : a.kind = 9
                          · have q9 : (a.kind != 9) = false := by rw [h9]; rfl
                            have hgs : a.group.size ≤ 9223372036854775807 := by have := Htl.out.2 h9; omega
                            have H9 := Lib.hid h9
                            clear h9
                            have HN2 := Lib.hid (name_any a.group hgs w8)
                            clear hgs
                            go_wp2_with fail
                            with_reducible refine HN2.out.mono ?_
                            rintro er w9 ⟨rfl, hb9⟩
                            have HB9 := Lib.hid (HB8.out.trans (below_le HB8.out.size hb9))
                            clear hb9
                            go_wp2_with fail
                            go_ret
                            have HBz := HB9.out
                            exact ⟨ret_bool (by rw [← Hre.out, readsA_is HR.out Hok.out HBa.out Hx.out]; simp [sameA, R0.out, R1.out, R2.out, R3.out, R4.out, R5.out, Hn.out, H9.out]), HBz⟩
                          · have q9 : (a.kind != 9) = true := by simp [h9]
                            have H9 := Lib.hid h9
                            clear h9
                            go_wp2_with fail
                            go_ret
                            have HBz := HB8.out
                            exact ⟨ret_bool (by rw [← Hre.out, readsA_is HR.out Hok.out HBa.out Hx.out]; simp [sameA, R0.out, R1.out, R2.out, R3.out, R4.out, R5.out, H6.out, Hn.out, H9.out]), HBz⟩
                    · have r5 : (x.time == a.time) = false := by simp [h]
                      have R5 := Lib.hid h
                      clear h
                      by_cases h6 : a.kind = 6
                      · have q6 : (a.kind == 6) = true := by simp [h6]
                        have H6 := Lib.hid h6
                        clear h6
                        go_wp2_with fail
                        go_ret
                        have HBz := HB7.out
                        exact ⟨ret_bool (by rw [← Hre.out, readsA_is HR.out Hok.out HBa.out Hx.out]; simp [sameA, R0.out, R1.out, R2.out, R3.out, R4.out, R5.out, H6.out]), HBz⟩
                      · have q6 : (a.kind == 6) = false := by simp [h6]
                        have hts : a.topic.size ≤ 9223372036854775807 := by have := Htl.out.1 h6; omega
                        have H6 := Lib.hid h6
                        clear h6
                        have HN := Lib.hid (name_any a.topic hts wc)
                        clear hts
                        go_wp2_with fail
                        with_reducible refine HN.out.mono ?_
                        rintro er w8 ⟨rfl, hb8⟩
                        have HBz := HB7.out.trans (below_le HB7.out.size hb8)
                        clear hb8
                        have HBz' := Lib.hid HBz
                        clear HBz
                        go_wp2_with fail
                        go_ret
                        have HBz := HBz'.out
                        exact ⟨ret_bool (by rw [← Hre.out, readsA_is HR.out Hok.out HBa.out Hx.out]; simp [sameA, R0.out, R1.out, R2.out, R3.out, R4.out, R5.out, H6.out]), HBz⟩
                  · have r4 : (x.most == a.most) = false := by simp [h]
                    have R4 := Lib.hid h
                    clear h
                    by_cases h6 : a.kind = 6
                    · have q6 : (a.kind == 6) = true := by simp [h6]
                      have H6 := Lib.hid h6
                      clear h6
                      go_wp2_with fail
                      go_ret
                      have HBz := HB7.out
                      exact ⟨ret_bool (by rw [← Hre.out, readsA_is HR.out Hok.out HBa.out Hx.out]; simp [sameA, R0.out, R1.out, R2.out, R3.out, R4.out, H6.out]), HBz⟩
                    · have q6 : (a.kind == 6) = false := by simp [h6]
                      have hts : a.topic.size ≤ 9223372036854775807 := by have := Htl.out.1 h6; omega
                      have H6 := Lib.hid h6
                      clear h6
                      have HN := Lib.hid (name_any a.topic hts wc)
                      clear hts
                      go_wp2_with fail
                      with_reducible refine HN.out.mono ?_
                      rintro er w8 ⟨rfl, hb8⟩
                      have HBz := HB7.out.trans (below_le HB7.out.size hb8)
                      clear hb8
                      have HBz' := Lib.hid HBz
                      clear HBz
                      go_wp2_with fail
                      go_ret
                      have HBz := HBz'.out
                      exact ⟨ret_bool (by rw [← Hre.out, readsA_is HR.out Hok.out HBa.out Hx.out]; simp [sameA, R0.out, R1.out, R2.out, R3.out, R4.out, H6.out]), HBz⟩
                · have r3 : (x.off == a.off) = false := by simp [h]
                  have R3 := Lib.hid h
                  clear h
                  by_cases h6 : a.kind = 6
                  · have q6 : (a.kind == 6) = true := by simp [h6]
                    have H6 := Lib.hid h6
                    clear h6
                    go_wp2_with fail
                    go_ret
                    have HBz := HB7.out
                    exact ⟨ret_bool (by rw [← Hre.out, readsA_is HR.out Hok.out HBa.out Hx.out]; simp [sameA, R0.out, R1.out, R2.out, R3.out, H6.out]), HBz⟩
                  · have q6 : (a.kind == 6) = false := by simp [h6]
                    have hts : a.topic.size ≤ 9223372036854775807 := by have := Htl.out.1 h6; omega
                    have H6 := Lib.hid h6
                    clear h6
                    have HN := Lib.hid (name_any a.topic hts wc)
                    clear hts
                    go_wp2_with fail
                    with_reducible refine HN.out.mono ?_
                    rintro er w8 ⟨rfl, hb8⟩
                    have HBz := HB7.out.trans (below_le HB7.out.size hb8)
                    clear hb8
                    have HBz' := Lib.hid HBz
                    clear HBz
                    go_wp2_with fail
                    go_ret
                    have HBz := HBz'.out
                    exact ⟨ret_bool (by rw [← Hre.out, readsA_is HR.out Hok.out HBa.out Hx.out]; simp [sameA, R0.out, R1.out, R2.out, R3.out, H6.out]), HBz⟩
              · have r2 : (x.part == a.part) = false := by simp [h]
                have R2 := Lib.hid h
                clear h
                by_cases h6 : a.kind = 6
                · have q6 : (a.kind == 6) = true := by simp [h6]
                  have H6 := Lib.hid h6
                  clear h6
                  go_wp2_with fail
                  go_ret
                  have HBz := HB7.out
                  exact ⟨ret_bool (by rw [← Hre.out, readsA_is HR.out Hok.out HBa.out Hx.out]; simp [sameA, R0.out, R1.out, R2.out, H6.out]), HBz⟩
                · have q6 : (a.kind == 6) = false := by simp [h6]
                  have hts : a.topic.size ≤ 9223372036854775807 := by have := Htl.out.1 h6; omega
                  have H6 := Lib.hid h6
                  clear h6
                  have HN := Lib.hid (name_any a.topic hts wc)
                  clear hts
                  go_wp2_with fail
                  with_reducible refine HN.out.mono ?_
                  rintro er w8 ⟨rfl, hb8⟩
                  have HBz := HB7.out.trans (below_le HB7.out.size hb8)
                  clear hb8
                  have HBz' := Lib.hid HBz
                  clear HBz
                  go_wp2_with fail
                  go_ret
                  have HBz := HBz'.out
                  exact ⟨ret_bool (by rw [← Hre.out, readsA_is HR.out Hok.out HBa.out Hx.out]; simp [sameA, R0.out, R1.out, R2.out, H6.out]), HBz⟩
            · have r1 : (x.group.toList == a.group.toList) = false := by rw [str_eq]; simp [h]
              have R1 := Lib.hid h
              clear h
              by_cases h6 : a.kind = 6
              · have q6 : (a.kind == 6) = true := by simp [h6]
                have H6 := Lib.hid h6
                clear h6
                go_wp2_with fail
                go_ret
                have HBz := HB7.out
                exact ⟨ret_bool (by rw [← Hre.out, readsA_is HR.out Hok.out HBa.out Hx.out]; simp [sameA, R0.out, R1.out, H6.out]), HBz⟩
              · have q6 : (a.kind == 6) = false := by simp [h6]
                have hts : a.topic.size ≤ 9223372036854775807 := by have := Htl.out.1 h6; omega
                have H6 := Lib.hid h6
                clear h6
                have HN := Lib.hid (name_any a.topic hts wc)
                clear hts
                go_wp2_with fail
                with_reducible refine HN.out.mono ?_
                rintro er w8 ⟨rfl, hb8⟩
                have HBz := HB7.out.trans (below_le HB7.out.size hb8)
                clear hb8
                have HBz' := Lib.hid HBz
                clear HBz
                go_wp2_with fail
                go_ret
                have HBz := HBz'.out
                exact ⟨ret_bool (by rw [← Hre.out, readsA_is HR.out Hok.out HBa.out Hx.out]; simp [sameA, R0.out, R1.out, H6.out]), HBz⟩
          · have r0 : (x.topic.toList == a.topic.toList) = false := by rw [str_eq]; simp [h]
            have R0 := Lib.hid h
            clear h
            by_cases h6 : a.kind = 6
            · have q6 : (a.kind == 6) = true := by simp [h6]
              have H6 := Lib.hid h6
              clear h6
              go_wp2_with fail
              go_ret
              have HBz := HB7.out
              exact ⟨ret_bool (by rw [← Hre.out, readsA_is HR.out Hok.out HBa.out Hx.out]; simp [sameA, R0.out, H6.out]), HBz⟩
            · have q6 : (a.kind == 6) = false := by simp [h6]
              have hts : a.topic.size ≤ 9223372036854775807 := by have := Htl.out.1 h6; omega
              have H6 := Lib.hid h6
              clear h6
              have HN := Lib.hid (name_any a.topic hts wc)
              clear hts
              go_wp2_with fail
              with_reducible refine HN.out.mono ?_
              rintro er w8 ⟨rfl, hb8⟩
              have HBz := HB7.out.trans (below_le HB7.out.size hb8)
              clear hb8
              have HBz' := Lib.hid HBz
              clear HBz
              go_wp2_with fail
              go_ret
              have HBz := HBz'.out
              exact ⟨ret_bool (by rw [← Hre.out, readsA_is HR.out Hok.out HBa.out Hx.out]; simp [sameA, R0.out, H6.out]), HBz⟩
end Go.Proofs.YtpfdbbcfcimmfaaGreatDoor

/-
  ask: Right.
-/
namespace Go.Proofs.YtpfdbbcfcimmfaaGreatDoor
open Go.RowKit
attribute [local go_sem ↓] ldB_eq stB_eq ldE_eq stE_eq ldA_eq stA_eq

set_option maxRecDepth 100000 in
set_option maxHeartbeats 4000000 in
theorem aRight_any (a : Ask) (A : Option Addr) (n c : Nat) (w : World) (hr : RdT w A n c a.bat.vals) (r : Bool) (hre : rightA a = r) : Calls Tryz.prog 26 #[.agg #[.int .i64 a.corr, .int .i64 a.kind, .string a.topic, .string a.group, .int .i64 a.part, .int .i64 a.parts, .int .i64 a.first, .int .i64 a.off, .int .i64 a.most, .int .i64 a.time, .int .i64 a.bat.time, .int .i64 a.bat.prod, .int .i64 a.bat.seq, .slice A n c]] w fun er w' => er = .returned (.bool r) ∧ Below w.heap.size w w' := by
  have hbk := Bk.made w 47 #[.int .i64 a.corr, .int .i64 a.kind, .string a.topic, .string a.group, .int .i64 a.part, .int .i64 a.parts, .int .i64 a.first, .int .i64 a.off, .int .i64 a.most, .int .i64 a.time, .int .i64 a.bat.time, .int .i64 a.bat.prod, .int .i64 a.bat.seq, .slice A n c]
  have hbn := below_new w (.cells #[.int .i64 a.corr, .int .i64 a.kind, .string a.topic, .string a.group, .int .i64 a.part, .int .i64 a.parts, .int .i64 a.first, .int .i64 a.off, .int .i64 a.most, .int .i64 a.time, .int .i64 a.bat.time, .int .i64 a.bat.prod, .int .i64 a.bat.seq, .slice A n c] 47)
  have hld := ldA_bk hbk
  have HBK := Lib.hid hbk
  have HBn := Lib.hid hbn
  have Hr := Lib.hid (hr.ext hbn)
  have Hre := Lib.hid hre
  have HW := Lib.hid (writes_any a.kind (w.alloc (.cells #[.int .i64 a.corr, .int .i64 a.kind, .string a.topic, .string a.group, .int .i64 a.part, .int .i64 a.parts, .int .i64 a.first, .int .i64 a.off, .int .i64 a.most, .int .i64 a.time, .int .i64 a.bat.time, .int .i64 a.bat.prod, .int .i64 a.bat.seq, .slice A n c] 47)))
  clear hbk hbn hr hre
  by_cases h0 : a.corr < 0
  · have q0 : decide (a.corr < 0) = true := decide_eq_true h0
    go_enter Tryz.func26, Tryz.ntmps26
    go_wp2_with fail
    go_ret
    refine ⟨ret_bool ?_, HBn.out⟩
    rw [← Hre.out]
    unfold rightA
    rw [decide_eq_false (by omega), Bool.false_and]
  · have q0 : decide (a.corr < 0) = false := decide_eq_false h0
    by_cases h1 : 4294967295 < a.corr
    · have q1 : decide (4294967295 < a.corr) = true := decide_eq_true h1
      go_enter Tryz.func26, Tryz.ntmps26
      go_wp2_with fail
      go_ret
      refine ⟨ret_bool ?_, HBn.out⟩
      rw [← Hre.out]
      unfold rightA
      rw [decide_eq_false (show ¬ a.corr ≤ 4294967295 by omega), Bool.false_and, Bool.and_false]
    · have q1 : decide (4294967295 < a.corr) = false := decide_eq_false h1
      have hri : rightA a = (if writK a.kind then decide (a.most = 0) && (decide (a.time = 0) && rightE a.ent) else readsA a) := by
        unfold rightA
        rw [decide_eq_true (show 0 ≤ a.corr by omega), decide_eq_true (show a.corr ≤ 4294967295 by omega)]
        rfl
      rw [Hre.out] at hri
      have Hri := Lib.hid hri
      clear hri
      go_enter Tryz.func26, Tryz.ntmps26
      go_wp2_with fail
      with_reducible refine HW.out.mono ?_
      rintro er w1 ⟨rfl, rfl⟩
      cases hw : writK a.kind
      · have hri := Hri.out
        rw [hw, if_neg (by decide)] at hri
        have HRd := Lib.hid (reads_any a A n c _ Hr.out r hri.symm)
        clear hri hw
        go_wp2_with fail
        with_reducible refine HRd.out.mono ?_
        rintro er w2 ⟨rfl, hb2⟩
        have HB2 := Lib.hid (HBn.out.trans (below_le HBn.out.size hb2))
        clear hb2
        go_wp2_with fail
        go_ret
        exact ⟨rfl, HB2.out⟩
      · have hri := Hri.out
        rw [hw, if_pos rfl] at hri
        have Hri := Lib.hid hri
        clear hri hw
        by_cases hm : a.most = 0
        · have q2 : (a.most == 0) = true := by simp [hm]
          have Hm := Lib.hid hm
          clear hm
          by_cases ht : a.time = 0
          · have q3 : (a.time == 0) = true := by simp [ht]
            have Ht := Lib.hid ht
            clear ht
            have HE := Lib.hid (aent_any a A n c (w.alloc (.cells #[.int .i64 a.corr, .int .i64 a.kind, .string a.topic, .string a.group, .int .i64 a.part, .int .i64 a.parts, .int .i64 a.first, .int .i64 a.off, .int .i64 a.most, .int .i64 a.time, .int .i64 a.bat.time, .int .i64 a.bat.prod, .int .i64 a.bat.seq, .slice A n c] 47)))
            go_wp2_with fail
            with_reducible refine HE.out.mono ?_
            rintro er w2 ⟨rfl, hb2⟩
            have hrr : rightE a.ent = r := by
              have h := Hri.out
              rw [decide_eq_true Hm.out, decide_eq_true Ht.out] at h
              exact h.symm
            have HR2 : Hid (Calls Tryz.prog 11 #[.agg #[.int .i64 a.kind, .string a.topic, .string a.group, .int .i64 a.part, .int .i64 a.parts, .int .i64 a.first, .int .i64 a.off, .int .i64 a.bat.time, .int .i64 a.bat.prod, .int .i64 a.bat.seq, .slice A n c]] w2 fun er w' => er = .returned (.bool r) ∧ Below w2.heap.size w2 w') := eRight_any a.ent A n c w2 (RdT.ext Hr.out hb2) r hrr
            have HB2 := Lib.hid (HBn.out.trans (below_le HBn.out.size hb2))
            clear hb2 hrr
            go_wp2_with fail
            with_reducible refine HR2.out.mono ?_
            rintro er w3 ⟨rfl, hb3⟩
            have HB3 := Lib.hid (HB2.out.trans (below_le HB2.out.size hb3))
            clear hb3
            go_wp2_with fail
            go_ret
            exact ⟨rfl, HB3.out⟩
          · have q3 : (a.time == 0) = false := by simp [ht]
            have Ht := Lib.hid ht
            clear ht
            go_wp2_with fail
            go_ret
            refine ⟨ret_bool ?_, HBn.out⟩
            rw [Hri.out, decide_eq_false Ht.out, Bool.false_and, Bool.and_false]
        · have q2 : (a.most == 0) = false := by simp [hm]
          have Hm := Lib.hid hm
          clear hm
          go_wp2_with fail
          go_ret
          refine ⟨ret_bool ?_, HBn.out⟩
          rw [Hri.out, decide_eq_false Hm.out, Bool.false_and]
end Go.Proofs.YtpfdbbcfcimmfaaGreatDoor

/-
  ask: Put.
-/
namespace Go.Proofs.YtpfdbbcfcimmfaaGreatDoor
open Go.RowKit
attribute [local go_sem ↓] ldB_eq stB_eq ldE_eq stE_eq ldA_eq stA_eq sliced_past

theorem hdr_is (a : Ask) (hk : 1 ≤ a.kind ∧ a.kind ≤ 9) (hc : 0 ≤ a.corr ∧ a.corr ≤ 4294967295) : (#[.int .u8 1, .int .u8 a.kind, .int .u8 (a.corr % 256), .int .u8 (a.corr / 256 % 256), .int .u8 (a.corr / 65536 % 256), .int .u8 (a.corr / 16777216 % 256)] : Array Value) = (bvs (headA a.kind a.corr)).toArray := by
  have e1 : w8 (UInt8.ofNat a.kind.toNat) = a.kind := w8_kindA hk
  have b0 : w8 (byteAt a.corr.toNat 0) = a.corr % 256 := by rw [← byteAt_w8, Int.toNat_of_nonneg hc.1]; simp only [Nat.mul_zero, Int.pow_zero]; omega
  have b1 : w8 (byteAt a.corr.toNat 1) = a.corr / 256 % 256 := by rw [← byteAt_w8, Int.toNat_of_nonneg hc.1]; simp only [Nat.mul_one, Int.reducePow]
  have b2 : w8 (byteAt a.corr.toNat 2) = a.corr / 65536 % 256 := by rw [← byteAt_w8, Int.toNat_of_nonneg hc.1]; simp only [Nat.reduceMul, Int.reducePow]
  have b3 : w8 (byteAt a.corr.toNat 3) = a.corr / 16777216 % 256 := by rw [← byteAt_w8, Int.toNat_of_nonneg hc.1]; simp only [Nat.reduceMul, Int.reducePow]
  show _ = (#[.int .u8 (w8 1), .int .u8 (w8 (UInt8.ofNat a.kind.toNat)), .int .u8 (w8 (byteAt a.corr.toNat 0)), .int .u8 (w8 (byteAt a.corr.toNat 1)), .int .u8 (w8 (byteAt a.corr.toNat 2)), .int .u8 (w8 (byteAt a.corr.toNat 3))] : Array Value)
  rw [e1, b0, b1, b2, b3]
  rfl
theorem hdr_own (a : Ask) (hk : 1 ≤ a.kind ∧ a.kind ≤ 9) (hc : 0 ≤ a.corr ∧ a.corr ≤ 4294967295) (w1 : World) (B : Nat) (hB : B ≤ w1.heap.size) : OwnB (w1.alloc (.cells #[.int .u8 1, .int .u8 a.kind, .int .u8 (a.corr % 256), .int .u8 (a.corr / 256 % 256), .int .u8 (a.corr / 65536 % 256), .int .u8 (a.corr / 16777216 % 256)] 5)) B (.slice (some ⟨w1.heap.size, 0, none⟩) 6 6) (headA a.kind a.corr) := by
  rw [hdr_is a hk hc]
  exact ((show Bb (w1.alloc (.cells (bvs (headA a.kind a.corr)).toArray 5)) w1.heap.size 5 (headA a.kind a.corr) from Bk.made w1 5 _).owns (n := 6) rfl (by omega)).own hB 6 rfl
theorem readsA_of {a : Ask} (h : rightA a = true) (hw : writK a.kind = false) : readsA a = true := by
  obtain ⟨_, ⟨h1, _⟩ | ⟨_, h1⟩⟩ := rightA_facts h
  · rw [hw] at h1; cases h1
  · exact h1
theorem restA_len {a : Ask} (h : rightA a = true) (hw : writK a.kind = false) : (bytesAll (fldsA a.kind) (valsA a)).length ≤ 600 := by
  obtain ⟨hk, hok, _⟩ := reads_facts (readsA_of h hw)
  obtain ⟨t1, t2⟩ := topicA_le hk hok
  rcases read_cases hk with k | k | k | k
  · have e1 : bytesAll (fldsA a.kind) (valsA a) = [] := by unfold fldsA valsA; rw [k]; rfl
    rw [e1]; simp
  · have e1 : bytesAll (fldsA a.kind) (valsA a) = txtB a.topic ++ (leB 1 a.part.toNat ++ (leB 8 a.off.toNat ++ (leB 4 a.most.toNat ++ []))) := by unfold fldsA valsA; rw [k]; rfl
    rw [e1]
    simp only [List.length_append, txtB_len, leB_len, List.length_nil]
    have := t1 (by omega)
    omega
  · have e1 : bytesAll (fldsA a.kind) (valsA a) = txtB a.topic ++ (leB 1 a.part.toNat ++ (leB 8 a.time.toNat ++ [])) := by unfold fldsA valsA; rw [k]; rfl
    rw [e1]
    simp only [List.length_append, txtB_len, leB_len, List.length_nil]
    have := t1 (by omega)
    omega
  · have e1 : bytesAll (fldsA a.kind) (valsA a) = txtB a.group ++ (txtB a.topic ++ (leB 1 a.part.toNat ++ [])) := by unfold fldsA valsA; rw [k]; rfl
    rw [e1]
    simp only [List.length_append, txtB_len, leB_len, List.length_nil]
    have := t1 (by omega)
    have := t2 k
    omega
theorem putA_len (a : Ask) : (putA a).length ≤ 606 := by
  cases hr : rightA a
  · rw [putA_no hr]; simp
  · rw [putA_eq hr, List.length_append]
    have h6 : (headA a.kind a.corr).length = 6 := rfl
    cases hw : writK a.kind
    · have e1 : restA a = bytesAll (fldsA a.kind) (valsA a) := by unfold restA; rw [if_neg (by rw [hw]; decide)]
      have := restA_len hr hw
      rw [e1, h6]; omega
    · have e1 : restA a = (putE a.ent).drop 1 := by unfold restA; rw [if_pos hw]
      have := putE_len a.ent
      rw [e1, h6, List.length_drop]; omega
set_option maxRecDepth 100000 in
set_option maxHeartbeats 4000000 in
theorem aPut_any (a : Ask) (A : Option Addr) (n c : Nat) (w : World) (hr : RdT w A n c a.bat.vals) :
    Calls Tryz.prog 24 #[.agg #[.int .i64 a.corr, .int .i64 a.kind, .string a.topic, .string a.group, .int .i64 a.part, .int .i64 a.parts, .int .i64 a.first, .int .i64 a.off, .int .i64 a.most, .int .i64 a.time, .int .i64 a.bat.time, .int .i64 a.bat.prod, .int .i64 a.bat.seq, .slice A n c]] w fun er w' => ∃ A' M c', er = .returned (.slice A' M c') ∧ OwnB w' w.heap.size (.slice A' M c') (putA a) ∧ Below w.heap.size w w' := by
  have hbk := Bk.made w 47 #[.int .i64 a.corr, .int .i64 a.kind, .string a.topic, .string a.group, .int .i64 a.part, .int .i64 a.parts, .int .i64 a.first, .int .i64 a.off, .int .i64 a.most, .int .i64 a.time, .int .i64 a.bat.time, .int .i64 a.bat.prod, .int .i64 a.bat.seq, .slice A n c]
  have hbn := below_new w (.cells #[.int .i64 a.corr, .int .i64 a.kind, .string a.topic, .string a.group, .int .i64 a.part, .int .i64 a.parts, .int .i64 a.first, .int .i64 a.off, .int .i64 a.most, .int .i64 a.time, .int .i64 a.bat.time, .int .i64 a.bat.prod, .int .i64 a.bat.seq, .slice A n c] 47)
  have hld := ldA_bk hbk
  have HBK := Lib.hid hbk
  have HBn := Lib.hid hbn
  have Hr := Lib.hid (hr.ext hbn)
  obtain ⟨r, hre⟩ : ∃ r, rightA a = r := ⟨_, rfl⟩
  have HRt := Lib.hid (aRight_any a A n c _ Hr.out r hre)
  have Hre := Lib.hid hre
  clear hbk hbn hr hre
  go_enter Tryz.func24, Tryz.ntmps24
  go_wp2_with fail
  with_reducible refine HRt.out.mono ?_
  rintro er w1 ⟨rfl, hb1⟩
  have HK1 := Lib.hid (HBK.out.ext hb1)
  have HB1 := Lib.hid (HBn.out.trans (below_le HBn.out.size hb1))
  have HR1 := Lib.hid (RdT.ext Hr.out hb1)
  clear hb1 hld HRt HBK HBn Hr
  cases r
  · go_wp2_with fail
    go_ret
    exact ⟨none, 0, 0, rfl, by rw [putA_no Hre.out]; exact OwnB.nil _ _, HB1.out⟩
  · have c0 : w1.cell? ⟨w.heap.size, 0, none⟩ = some (.int .i64 a.corr) := HK1.out.cell 0
    have c1 : w1.cell? ⟨w.heap.size, 1, none⟩ = some (.int .i64 a.kind) := HK1.out.cell 1
    have hfc := (rightA_facts Hre.out).1
    have hkd := right_kindA Hre.out
    have hkk : a.kind % 256 = a.kind := by omega
    have hho := hdr_own a hkd hfc w1 w.heap.size HB1.out.size
    have hbh := below_new w1 (.cells #[.int .u8 1, .int .u8 a.kind, .int .u8 (a.corr % 256), .int .u8 (a.corr / 256 % 256), .int .u8 (a.corr / 65536 % 256), .int .u8 (a.corr / 16777216 % 256)] 5)
    have HK2 := Lib.hid (HK1.out.ext hbh)
    have HB2 := Lib.hid (HB1.out.trans (below_le HB1.out.size hbh))
    have HR2 := Lib.hid (RdT.ext HR1.out hbh)
    have HO := Lib.hid hho
    have HW := Lib.hid (writes_any a.kind (w1.alloc (.cells #[.int .u8 1, .int .u8 a.kind, .int .u8 (a.corr % 256), .int .u8 (a.corr / 256 % 256), .int .u8 (a.corr / 65536 % 256), .int .u8 (a.corr / 16777216 % 256)] 5)))
    have d1 : (w1.alloc (.cells #[.int .u8 1, .int .u8 a.kind, .int .u8 (a.corr % 256), .int .u8 (a.corr / 256 % 256), .int .u8 (a.corr / 65536 % 256), .int .u8 (a.corr / 16777216 % 256)] 5)).cell? ⟨w.heap.size, 1, none⟩ = some (.int .i64 a.kind) := HK2.out.cell 1
    clear hho hbh hfc hkd
    go_wp2_with fail
    with_reducible refine HW.out.mono ?_
    rintro er w2 ⟨rfl, rfl⟩
    clear d1 c0 c1 HW
    generalize w1.heap.size = g1 at HO ⊢
    generalize w1.alloc (.cells #[.int .u8 1, .int .u8 a.kind, .int .u8 (a.corr % 256), .int .u8 (a.corr / 256 % 256), .int .u8 (a.corr / 65536 % 256), .int .u8 (a.corr / 16777216 % 256)] 5) = w2 at HK2 HB2 HR2 HO ⊢
    cases hw : writK a.kind
    · have Hw := Lib.hid hw
      clear hw
      have c1 : w2.cell? ⟨w.heap.size, 1, none⟩ = some (.int .i64 a.kind) := HK2.out.cell 1
      have HF := Lib.hid (afields_any a.kind w2)
      go_wp2_with fail
      with_reducible refine HF.out.mono ?_
      rintro er w3 ⟨A3, n3, c3, ok, rfl, _, hrf, hn3, hb3⟩
      have l3 := ldA_bk (HK2.out.ext hb3)
      have HV := Lib.hid (aValues a A n c w3)
      have Hrf := Lib.hid hrf
      have Hb3 := Lib.hid hb3
      have Hn3 := Lib.hid hn3
      clear hrf hb3 hn3 HF c1
      go_wp2_with fail
      with_reducible refine HV.out.mono ?_
      rintro er w4 ⟨A4, n4, c4, ms, rfl, hrv, hvs, hb4⟩
      have HP := Lib.hid (fput_r A3 n3 c3 (fldsA a.kind) A4 n4 c4 ms w4 (fldsA_some _) (Hrf.out.ext hb4) hrv Hn3.out w4 w4.heap.size (Below.refl _ _) (Nat.le_refl _))
      have Hvs := Lib.hid hvs
      have Hb4 := Lib.hid (Hb3.out.trans (below_le Hb3.out.size hb4))
      clear hrv hvs hb4 HV l3
      go_wp2_with fail
      with_reducible refine HP.out.mono ?_
      rintro er w5 ⟨A5, M5, c5, v5, rfl, hp5, hb5⟩
      rw [Hvs.out] at hp5
      have hok := (reads_facts (readsA_of Hre.out Hw.out)).2.1
      rcases hp5 with ⟨_, rfl, ho5⟩ | ⟨hno, _⟩
      · have Hb5 := Lib.hid (Hb4.out.trans (below_le Hb4.out.size hb5))
        have HO5 := Lib.hid (OwnB.ext HO.out Hb5.out)
        have HR5 := Lib.hid ho5.rd
        have HM5 := Lib.hid ho5.rd.len
        have HM6 : Hid (M5 ≤ 600) := by
          show M5 ≤ 600
          rw [← HM5.out]
          exact restA_len Hre.out Hw.out
        have HB5 := Lib.hid (HB2.out.trans (below_le HB2.out.size Hb5.out))
        clear ho5 hb5 hok
        go_wp2_with (first | (at_builtin; go_loud (refine wpList_append_bytes rfl (.tmp 52) (.tmp 53) rfl w.heap.size w _ (headA a.kind a.corr) rfl HO5.out A5 M5 c5 (bytesAll (fldsA a.kind) (valsA a)) rfl HR5.out (by have := HM6.out; simp [headA]; omega) HB5.out HB5.out.size (6 + M5) (by simp [headA]) ?_; intro A6 c6 w6 ho6 hb6 hs6)) | fail)
        go_ret
        refine ⟨_, _, _, rfl, ?_, hb6⟩
        rw [putA_eq Hre.out]
        unfold restA
        rw [if_neg (by rw [Hw.out]; decide)]
        exact ho6.out
      · rw [hok] at hno
        cases hno
    · have Hw := Lib.hid hw
      clear hw
      have hre2 : rightE a.ent = true := by
        obtain ⟨_, ⟨_, _, _, h⟩ | ⟨h, _⟩⟩ := rightA_facts Hre.out
        · exact h
        · rw [Hw.out] at h; cases h
      have HRe := Lib.hid hre2
      have l2 := ldA_bk HK2.out
      have HE := Lib.hid (aent_any a A n c w2)
      clear hre2
      go_wp2_with fail
      with_reducible refine HE.out.mono ?_
      rintro er w3 ⟨rfl, hb3⟩
      have HP3 : Hid (Calls Tryz.prog 10 #[.agg #[.int .i64 a.kind, .string a.topic, .string a.group, .int .i64 a.part, .int .i64 a.parts, .int .i64 a.first, .int .i64 a.off, .int .i64 a.bat.time, .int .i64 a.bat.prod, .int .i64 a.bat.seq, .slice A n c]] w3 fun er w' => ∃ A' M c', er = .returned (.slice A' M c') ∧ OwnB w' w3.heap.size (.slice A' M c') (putE a.ent) ∧ Below w3.heap.size w3 w') := ePut_any a.ent A n c w3 (RdT.ext HR2.out hb3)
      have Hb3 := Lib.hid hb3
      clear hb3 l2 HE
      go_wp2_with fail
      with_reducible refine HP3.out.mono ?_
      rintro er w4 ⟨A4, M4, c4, rfl, ho4, hb4⟩
      have Hb4 := Lib.hid (Hb3.out.trans (below_le Hb3.out.size hb4))
      have hl4 := ho4.rd.len
      have hM4 := putE_len a.ent
      have hM1 : 0 < M4 := by rw [← hl4, putE_eq HRe.out]; simp
      rw [hl4] at hM4
      have hcap := ho4.rd.cap
      have HM4 := Lib.hid hM4
      have HR4 := Lib.hid (ho4.rd.past' 1 (by omega))
      have HO4 := Lib.hid (OwnB.ext HO.out Hb4.out)
      have HB4 := Lib.hid (HB2.out.trans (below_le HB2.out.size Hb4.out))
      have hi1 : (1 : Int) ≤ (M4 : Int) := by omega
      have hi2 : (M4 : Int) ≤ (c4 : Int) := by omega
      clear ho4 hb4 hl4 hM4 HP3
      go_wp2_with (first | (at_builtin; go_loud (refine wpList_append_bytes rfl (.tmp 33) (.tmp 37) rfl w.heap.size w _ (headA a.kind a.corr) rfl HO4.out _ (M4 - 1) (c4 - 1) ((putE a.ent).drop 1) rfl HR4.out (by have := HM4.out; simp [headA]; omega) HB4.out HB4.out.size (6 + (M4 - 1)) (by simp [headA]) ?_; intro A6 c6 w6 ho6 hb6 hs6)) | fail)
      go_ret
      refine ⟨_, _, _, rfl, ?_, hb6⟩
      rw [putA_eq Hre.out]
      unfold restA
      rw [if_pos Hw.out]
      exact ho6.out
end Go.Proofs.YtpfdbbcfcimmfaaGreatDoor

/-
  entry: Get, with where the values lie.
-/
namespace Go.Proofs.YtpfdbbcfcimmfaaGreatDoor
open Go.RowKit
attribute [local go_sem ↓] ldB_eq stB_eq ldE_eq stE_eq sliced_past
attribute [local go_sem] pastA_zero pastA_some w8_nn w8_256 wrap_i64_w8 wrap64_w8

set_option maxRecDepth 100000 in
set_option maxHeartbeats 4000000 in
theorem eget_prov (A : Option Addr) (n c : Nat) (l : List UInt8) (w : World) (hr : RdB w A n c l) :
    Calls Tryz.prog 17 #[.slice A n c] w fun er w' => ∃ (x : Ent) (A' : Option Addr) (n' c' : Nat) (v : Value), er = .returned (.tuple #[.agg #[.int .i64 x.kind, .string x.topic, .string x.group, .int .i64 x.part, .int .i64 x.parts, .int .i64 x.first, .int .i64 x.off, .int .i64 x.bat.time, .int .i64 x.bat.prod, .int .i64 x.bat.seq, .slice A' n' c'], v]) ∧ GetEr l w' x A' n' c' v ∧ Below w.heap.size w w' ∧ (∀ ad, A' = some ad → w.heap.size ≤ ad.block) := by
  have hz := Bk.made w 26 #[.int .i64 0, .string ⟨#[]⟩, .string ⟨#[]⟩, .int .i64 0, .int .i64 0, .int .i64 0, .int .i64 0, .int .i64 0, .int .i64 0, .int .i64 0, .slice none 0 0]
  have hbn := below_new w (.cells #[.int .i64 0, .string ⟨#[]⟩, .string ⟨#[]⟩, .int .i64 0, .int .i64 0, .int .i64 0, .int .i64 0, .int .i64 0, .int .i64 0, .int .i64 0, .slice none 0 0] 26)
  have Hz := Lib.hid hz
  have HB := Lib.hid hbn
  have HR := Lib.hid (hr.ext hbn)
  have hlen := hr.len
  have hcap := hr.cap
  have hbig := hr.big
  by_cases hn : n = 0
  · subst hn
    obtain rfl : l = [] := List.eq_nil_of_length_eq_zero hlen
    have hst := stE_row hz rfl 0 ⟨#[]⟩ ⟨#[]⟩ 0 0 0 0 0 0 0 none 0 0
    clear hz hbn hr
    go_enter Tryz.func17, Tryz.ntmps17
    go_wp2_with (first | (go_at_call 49; refine (wrap_err (.no 3) _ _ _).mono ?_; rintro er w4 ⟨v4, rfl, he4, rfl⟩) | fail)
    exact bodyPost_ret (res_ent (u := 3) rfl _ _ w.heap.size 0 ⟨#[]⟩ ⟨#[]⟩ 0 0 0 0 0 0 0 none 0 0 rfl (Bk.row Hz.out _)) rfl ⟨noE, none, 0, 0, v4, rfl, ⟨RdT.nil _, .inr ⟨rfl, 0, 3, by omega, he4, rfl⟩⟩, below_row HB.out HB.out.size (Nat.le_refl _) _, fun ad h => by cases h⟩
  · have hn0 : (0 : Int) < n := by omega
    have hnz : ((n : Int) == 0) = false := by simp; omega
    obtain ⟨ad, x0, rfl, _, hx0, hc0⟩ := RdB.get (hr.ext hbn) (k := 0) (by omega)
    have hcz : (w.alloc (.cells #[.int .i64 0, .string ⟨#[]⟩, .string ⟨#[]⟩, .int .i64 0, .int .i64 0, .int .i64 0, .int .i64 0, .int .i64 0, .int .i64 0, .int .i64 0, .slice none 0 0] 26)).cell? ad = some (.int .u8 (w8 x0)) := by
      have : ad.add 0 = ad := by unfold Addr.add; simp
      rw [← this]; exact hc0
    obtain ⟨r, rfl⟩ : ∃ r, l = x0 :: r := by
      have h := hx0.out
      cases l with
      | nil => simp at h
      | cons y r => simp at h; subst h; exact ⟨r, rfl⟩
    have HF := Lib.hid (fields_any (w8 x0) _ _ _ (Below.refl (w.alloc (.cells #[.int .i64 0, .string ⟨#[]⟩, .string ⟨#[]⟩, .int .i64 0, .int .i64 0, .int .i64 0, .int .i64 0, .int .i64 0, .int .i64 0, .int .i64 0, .slice none 0 0] 26)).heap.size _) (Nat.le_refl _))
    clear hz hbn hr hc0
    go_enter Tryz.func17, Tryz.ntmps17
    go_wp2_with fail
    with_reducible refine HF.out.mono ?_
    rintro er w1 ⟨v1, rfl, hf1, hb1⟩
    obtain ⟨A1, n1, c1, rfl, hrf, hn1, hsome⟩ := hf1
    have hz1 := Hz.out.ext hb1
    have HB1 := Lib.hid (HB.out.trans (below_le HB.out.size hb1))
    have HR1 := Lib.hid (HR.out.ext hb1)
    have Hrf := Lib.hid hrf
    have hen := eq_nil_slice
    by_cases hkd : 1 ≤ w8 x0 ∧ w8 x0 ≤ 5
    · rw [decide_eq_true hkd] at hsome
      have hnone : A1.isNone = false := by cases A1 <;> simp at hsome ⊢
      have hrp := (HR1.out.past' 1 (by omega))
      have hn1c : (1 : Int) ≤ (n : Int) := by omega
      have hG := Lib.hid (fget_any A1 n1 c1 (fldsE (w8 x0)) _ _ _ _ w1 (flds_some _) Hrf.out hrp hn1)
      have Hz1 := Lib.hid hz1
      have Hkd := Lib.hid hkd
      clear hrf hb1 hz1 HF Hz HR HB hcz hkd
      go_wp2_with fail
      with_reducible refine hG.out.mono ?_
      rintro er w2 ⟨A2, n2, c2, v2, rfl, hgr, hb2⟩
      have hz2 := Hz1.out.ext hb2
      have Hz2 := Lib.hid hz2
      have HB2 := Lib.hid (HB1.out.trans (below_le HB1.out.size hb2))
      rcases hgr with ⟨ms, rfl, hrv, hga, _⟩ | ⟨k, hke, hga⟩
      · have hok := (getAll_inv _ _ _ (good_E _) hga).1
        have HM := Lib.hid (made_any (w8 x0) Hkd.out A2 n2 c2 ms w2 hrv hok)
        have Hga := Lib.hid (getE_vals Hkd.out (show getAll (fldsE (w8 x0)) r = _ from hga))
        clear hrv hga hok hb2 hz2 hG hrp
        go_wp2_with fail
        with_reducible refine HM.out.mono ?_
        rintro er w3 ⟨x, A3, n3, c3, v3, rfl, hm3, hb3⟩
        obtain ⟨hx3, hr3, hp3, hv3⟩ := hm3
        have hst3 := stE_newAt w3 w3.heap.size rfl x.kind x.topic x.group x.part x.parts x.first x.off x.bat.time x.bat.prod x.bat.seq A3 n3 c3 #[.int .i64 0, .string ⟨#[]⟩, .string ⟨#[]⟩, .int .i64 0, .int .i64 0, .int .i64 0, .int .i64 0, .int .i64 0, .int .i64 0, .int .i64 0, .slice none 0 0] rfl
        have hbn3 := below_new w3 (.cells #[.int .i64 x.kind, .string x.topic, .string x.group, .int .i64 x.part, .int .i64 x.parts, .int .i64 x.first, .int .i64 x.off, .int .i64 x.bat.time, .int .i64 x.bat.prod, .int .i64 x.bat.seq, .slice A3 n3 c3] 26)
        have hk3 := Bk.made w3 26 #[.int .i64 x.kind, .string x.topic, .string x.group, .int .i64 x.part, .int .i64 x.parts, .int .i64 x.first, .int .i64 x.off, .int .i64 x.bat.time, .int .i64 x.bat.prod, .int .i64 x.bat.seq, .slice A3 n3 c3]
        have hld3 := ldE_bk hk3
        have hz3 := (Hz2.out.ext hb3).ext hbn3
        have HB3 := Lib.hid ((HB2.out.trans (below_le HB2.out.size hb3)).trans (below_le (Nat.le_trans HB2.out.size hb3.size) hbn3))
        have HR3 := Lib.hid (RdT.ext hr3 hbn3)
        have Hx3 := Lib.hid hx3
        have Hp3 := Lib.hid hp3
        have HK3 := Lib.hid hk3
        have Hz3 := Lib.hid hz3
        have Hw2 := Lib.hid Hz2.out.lt
        clear hx3 hr3 hp3 hbn3 hk3 hb3 HM
        rcases hv3 with ⟨rfl, hbad⟩ | ⟨d, e, hke, hbad⟩
        · obtain ⟨rr, hrr⟩ : ∃ rr, rightE x = rr := ⟨_, rfl⟩
          have HRt := Lib.hid (eRight_any x A3 n3 c3 _ HR3.out rr hrr)
          have Hge := Lib.hid Hga.out
          have hg2 := Hga.out
          rw [hbad, ← Hx3.out, hrr] at hg2
          have Hg2 := Lib.hid hg2
          clear hg2 hrr hbad hz3
          cases rr
          · go_wp2_with fail
            with_reducible refine HRt.out.mono ?_
            rintro er w4 ⟨rfl, hb4⟩
            have hz4 := Hz3.out.ext hb4
            have hst := stE_row hz4 rfl 0 ⟨#[]⟩ ⟨#[]⟩ 0 0 0 0 0 0 0 none 0 0
            have Hz4 := Lib.hid hz4
            have HB4 := Lib.hid (HB3.out.trans (below_le HB3.out.size hb4))
            clear hld3 hst3 hz4 hb4
            go_wp2_with (first | (go_at_call 49; refine (wrap_err (.no 2) _ _ _).mono ?_; rintro er w5 ⟨v5, rfl, he5, rfl⟩) | fail)
            exact bodyPost_ret (res_ent (u := 3) rfl _ _ w.heap.size 0 ⟨#[]⟩ ⟨#[]⟩ 0 0 0 0 0 0 0 none 0 0 rfl (Bk.row Hz4.out _)) rfl ⟨noE, none, 0, 0, v5, rfl, ⟨RdT.nil _, .inr ⟨rfl, 0, 2, by omega, he5, by rw [Hg2.out]; rfl⟩⟩, below_row HB4.out HB4.out.size (Nat.le_refl _) _, fun ad h => by cases h⟩
          · go_wp2_with fail
            with_reducible refine HRt.out.mono ?_
            rintro er w4 ⟨rfl, hb4⟩
            have hz4 := Hz3.out.ext hb4
            have hld4 := ldE_bk (HK3.out.ext hb4)
            have hst := stE_row hz4 rfl x.kind x.topic x.group x.part x.parts x.first x.off x.bat.time x.bat.prod x.bat.seq A3 n3 c3
            have Hz4 := Lib.hid hz4
            have HB4 := Lib.hid (HB3.out.trans (below_le HB3.out.size hb4))
            have HR4 := Lib.hid (HR3.out.ext hb4)
            clear hld3 hst3 hz4 hb4
            go_wp2_with fail
            refine bodyPost_ret (res_ent (u := 3) rfl _ _ w.heap.size x.kind x.topic x.group x.part x.parts x.first x.off x.bat.time x.bat.prod x.bat.seq A3 n3 c3 rfl (Bk.row Hz4.out _)) rfl ⟨x, A3, n3, c3, .nilIface, rfl, ⟨RdT.kept HR4.out (grown_row _ _ _) (fun ad e e2 => ?_), .inl ⟨rfl, by rw [Hg2.out]; rfl⟩⟩, below_row HB4.out HB4.out.size (Nat.le_refl _) _, fun ad e => Nat.le_trans HB2.out.size (Hp3.out ad e)⟩
            have h1 := Hp3.out ad e
            have h2 := Hw2.out
            have := Option.some.inj e2
            omega
        · have hen3 := hke.ne
          have heg3 := hke.guardN 45
          have hst := stE_row hz3 rfl 0 ⟨#[]⟩ ⟨#[]⟩ 0 0 0 0 0 0 0 none 0 0
          have hg2 := Hga.out
          rw [hbad] at hg2
          have Hg2 := Lib.hid hg2
          clear hg2 hbad hke hz3
          go_wp2_with (first | (go_at_call 49; refine (wrap_err (.no 2) _ _ _).mono ?_; rintro er w5 ⟨v5, rfl, he5, rfl⟩) | fail)
          exact bodyPost_ret (res_ent (u := 3) rfl _ _ w.heap.size 0 ⟨#[]⟩ ⟨#[]⟩ 0 0 0 0 0 0 0 none 0 0 rfl (Bk.row Hz3.out _)) rfl ⟨noE, none, 0, 0, v5, rfl, ⟨RdT.nil _, .inr ⟨rfl, 0, 2, by omega, he5, by rw [Hg2.out]; rfl⟩⟩, below_row HB3.out HB3.out.size (Nat.le_refl _) _, fun ad h => by cases h⟩
      · have hen2 := hke.ne
        have heg2 := hke.guardN 34
        have hst := stE_row hz2 rfl 0 ⟨#[]⟩ ⟨#[]⟩ 0 0 0 0 0 0 0 none 0 0
        have Hke := Lib.hid hke
        have Hga := Lib.hid (getE_err Hkd.out (show getAll (fldsE (w8 x0)) r = .error k from hga))
        clear hke hga hb2 hz2 hG hrp
        go_wp2_with (first | (go_at_call 49; refine (wrap_err Hke.out _ _ _).mono ?_; rintro er w5 ⟨v5, rfl, he5, rfl⟩) | fail)
        exact bodyPost_ret (res_ent (u := 3) rfl _ _ w.heap.size 0 ⟨#[]⟩ ⟨#[]⟩ 0 0 0 0 0 0 0 none 0 0 rfl (Bk.row Hz2.out _)) rfl ⟨noE, none, 0, 0, v5, rfl, ⟨RdT.nil _, .inr ⟨rfl, 1, k, by omega, he5, Hga.out⟩⟩, below_row HB2.out HB2.out.size (Nat.le_refl _) _, fun ad h => by cases h⟩
    · rw [decide_eq_false hkd] at hsome
      have hnone : A1.isNone = true := by cases A1 <;> simp at hsome ⊢
      have hge : Hid (getE (x0 :: r) = .error 2) := getE_none (by omega)
      have hst := stE_row hz1 rfl 0 ⟨#[]⟩ ⟨#[]⟩ 0 0 0 0 0 0 0 none 0 0
      have Hz1 := Lib.hid hz1
      clear hrf hb1 hz1 HF Hz HR HB hcz hkd
      go_wp2_with (first | (go_at_call 49; refine (wrap_err (.no 2) _ _ _).mono ?_; rintro er w4 ⟨v4, rfl, he4, rfl⟩) | fail)
      exact bodyPost_ret (res_ent (u := 3) rfl _ _ w.heap.size 0 ⟨#[]⟩ ⟨#[]⟩ 0 0 0 0 0 0 0 none 0 0 rfl (Bk.row Hz1.out _)) rfl ⟨noE, none, 0, 0, v4, rfl, ⟨RdT.nil _, .inr ⟨rfl, 0, 2, by omega, he4, hge.out⟩⟩, below_row HB1.out HB1.out.size (Nat.le_refl _) _, fun ad h => by cases h⟩
end Go.Proofs.YtpfdbbcfcimmfaaGreatDoor

/-
  ask: body.
-/
namespace Go.Proofs.YtpfdbbcfcimmfaaGreatDoor
open Go.RowKit
attribute [local go_sem ↓] ldB_eq stB_eq ldE_eq stE_eq ldA_eq stA_eq sliced_past
attribute [local go_sem] pastA_zero pastA_some w8_nn w8_256 wrap_i64_w8 wrap64_w8

/-- what body hands back -/
def BodyR (B : Nat) (k : UInt8) (l : List UInt8) (w' : World) (x : Ask) (A : Option Addr) (n c : Nat) (v : Value) : Prop :=
  RdT w' A n c x.bat.vals ∧ (∀ ad, A = some ad → B ≤ ad.block) ∧ ((v = .nilIface ∧ bodyA k l = .ok x) ∨ (∃ d e, d ≤ 2 ∧ IsErr d v e ∧ bodyA k l = .error e))
set_option maxRecDepth 100000 in
set_option maxHeartbeats 4000000 in
theorem body_any (k : UInt8) (A : Option Addr) (n c : Nat) (l : List UInt8) (w : World) (hr : RdB w A n c l) (hn : n ≤ 1000000) :
    Calls Tryz.prog 54 #[.int .i64 (w8 k), .slice A n c] w fun er w' => ∃ (x : Ask) (A' : Option Addr) (n' c' : Nat) (v : Value), er = .returned (.tuple #[.agg #[.int .i64 x.corr, .int .i64 x.kind, .string x.topic, .string x.group, .int .i64 x.part, .int .i64 x.parts, .int .i64 x.first, .int .i64 x.off, .int .i64 x.most, .int .i64 x.time, .int .i64 x.bat.time, .int .i64 x.bat.prod, .int .i64 x.bat.seq, .slice A' n' c'], v]) ∧ BodyR w.heap.size k l w' x A' n' c' v ∧ Below w.heap.size w w' := by
  have hz := Bk.made w 47 #[.int .i64 0, .int .i64 0, .string ⟨#[]⟩, .string ⟨#[]⟩, .int .i64 0, .int .i64 0, .int .i64 0, .int .i64 0, .int .i64 0, .int .i64 0, .int .i64 0, .int .i64 0, .int .i64 0, .slice none 0 0]
  have hbn := below_new w (.cells #[.int .i64 0, .int .i64 0, .string ⟨#[]⟩, .string ⟨#[]⟩, .int .i64 0, .int .i64 0, .int .i64 0, .int .i64 0, .int .i64 0, .int .i64 0, .int .i64 0, .int .i64 0, .int .i64 0, .slice none 0 0] 47)
  have HW := Lib.hid (writes_any (w8 k) (w.alloc (.cells #[.int .i64 0, .int .i64 0, .string ⟨#[]⟩, .string ⟨#[]⟩, .int .i64 0, .int .i64 0, .int .i64 0, .int .i64 0, .int .i64 0, .int .i64 0, .int .i64 0, .int .i64 0, .int .i64 0, .slice none 0 0] 47)))
  have Hz := Lib.hid hz
  have HB := Lib.hid hbn
  have HR := Lib.hid (hr.ext hbn)
  clear hz hbn hr
  go_enter Tryz.func54, Tryz.ntmps54
  go_wp2_with fail
  with_reducible refine HW.out.mono ?_
  rintro er w1 ⟨rfl, rfl⟩
  clear HW
  have hlt : w.heap.size < (w.alloc (.cells #[.int .i64 0, .int .i64 0, .string ⟨#[]⟩, .string ⟨#[]⟩, .int .i64 0, .int .i64 0, .int .i64 0, .int .i64 0, .int .i64 0, .int .i64 0, .int .i64 0, .int .i64 0, .int .i64 0, .slice none 0 0] 47)).heap.size := by simp
  generalize w.alloc (.cells #[.int .i64 0, .int .i64 0, .string ⟨#[]⟩, .string ⟨#[]⟩, .int .i64 0, .int .i64 0, .int .i64 0, .int .i64 0, .int .i64 0, .int .i64 0, .int .i64 0, .int .i64 0, .int .i64 0, .slice none 0 0] 47) = w1 at Hz HB HR hlt ⊢
  cases hw : writK (w8 k)
  · have Hw := Lib.hid hw
    clear hw
    have HF := Lib.hid (afields_any (w8 k) w1)
    go_wp2_with fail
    with_reducible refine HF.out.mono ?_
    rintro er w2 ⟨A2, n2, c2, ok, rfl, hok, hrf, hn2, hb2⟩
    have hz := Hz.out.ext hb2
    have HB2 := Lib.hid (HB.out.trans (below_le HB.out.size hb2))
    have HR2 := Lib.hid (HR.out.ext hb2)
    have Hok := Lib.hid hok
    cases ok
    · have hst := stA_row hz rfl 0 0 ⟨#[]⟩ ⟨#[]⟩ 0 0 0 0 0 0 0 0 0 none 0 0
      have Hz2 := Lib.hid hz
      clear hok hrf hb2 HF hz hlt
      go_wp2_with fail
      refine bodyPost_ret (res_ask (u := 5) rfl _ _ w.heap.size 0 0 ⟨#[]⟩ ⟨#[]⟩ 0 0 0 0 0 0 0 0 0 none 0 0 rfl (Bk.row Hz2.out _)) rfl ⟨noA, none, 0, 0, noV 2, rfl, ⟨RdT.nil _, (fun ad h => by cases h), .inr ⟨0, 2, by omega, .no 2, ?_⟩⟩, below_row HB2.out HB2.out.size (Nat.le_refl _) _⟩
      unfold bodyA
      rw [if_neg (by rw [Hw.out]; decide), if_neg (by rw [← Hok.out]; decide)]
    · have HG := Lib.hid (fget_any A2 n2 c2 (fldsA (w8 k)) A n c l w2 (fldsA_some _) hrf HR2.out hn2)
      have Hz2 := Lib.hid hz
      clear hok hrf hb2 HF hz
      go_wp2_with fail
      with_reducible refine HG.out.mono ?_
      rintro er w3 ⟨A3, n3, c3, v3, rfl, hgr, hb3⟩
      have hz := Hz2.out.ext hb3
      have HB3 := Lib.hid (HB2.out.trans (below_le HB2.out.size hb3))
      rcases hgr with ⟨ms, rfl, hrv, hga, _⟩ | ⟨e3, hke, hga⟩
      · have hok2 := (getAll_inv _ _ _ (good_A _) hga).1
        have HM := Lib.hid (amade_any (w8 k) Hok.out.symm A3 n3 c3 ms w3 hrv hok2)
        have Hga := Lib.hid hga
        have Hz3 := Lib.hid hz
        clear hb3 hz hrv hga hok2 HG hlt
        go_wp2_with fail
        with_reducible refine HM.out.mono ?_
        rintro er w4 ⟨x, rfl, hx, hxv, hb4⟩
        have hz := Hz3.out.ext hb4
        have hst := stA_row hz rfl x.corr x.kind x.topic x.group x.part x.parts x.first x.off x.most x.time x.bat.time x.bat.prod x.bat.seq none 0 0
        have Hz4 := Lib.hid hz
        have HB4 := Lib.hid (HB3.out.trans (below_le HB3.out.size hb4))
        have Hx := Lib.hid hx
        have Hxv := Lib.hid hxv
        clear hb4 hz hx hxv HM
        go_wp2_with fail
        refine bodyPost_ret (res_ask (u := 5) rfl _ _ w.heap.size x.corr x.kind x.topic x.group x.part x.parts x.first x.off x.most x.time x.bat.time x.bat.prod x.bat.seq none 0 0 rfl (Bk.row Hz4.out _)) rfl ⟨x, none, 0, 0, .nilIface, rfl, ⟨by rw [Hxv.out]; exact RdT.nil _, (fun ad h => by cases h), .inl ⟨rfl, ?_⟩⟩, below_row HB4.out HB4.out.size (Nat.le_refl _) _⟩
        unfold bodyA
        rw [if_neg (by rw [Hw.out]; decide), if_pos Hok.out.symm, Hga.out, Hx.out]
      · have hne := hke.ne
        have hgu := hke.guardN 56
        have hst := stA_row hz rfl 0 0 ⟨#[]⟩ ⟨#[]⟩ 0 0 0 0 0 0 0 0 0 none 0 0
        have Hz3 := Lib.hid hz
        have Hke := Lib.hid hke
        have Hga := Lib.hid hga
        clear hb3 hz hke hga HG hlt
        go_wp2_with fail
        refine bodyPost_ret (res_ask (u := 5) rfl _ _ w.heap.size 0 0 ⟨#[]⟩ ⟨#[]⟩ 0 0 0 0 0 0 0 0 0 none 0 0 rfl (Bk.row Hz3.out _)) rfl ⟨noA, none, 0, 0, v3, rfl, ⟨RdT.nil _, (fun ad h => by cases h), .inr ⟨1, e3, by omega, Hke.out, ?_⟩⟩, below_row HB3.out HB3.out.size (Nat.le_refl _) _⟩
        unfold bodyA
        rw [if_neg (by rw [Hw.out]; decide), if_pos Hok.out.symm, Hga.out]
  · have Hw := Lib.hid hw
    clear hw
    have hkk : w8 k % 256 = w8 k := by have := w8_lt k; omega
    have hown : OwnB (w1.alloc (.cells #[.int .u8 (w8 k)] 5)) w1.heap.size (.slice (some ⟨w1.heap.size, 0, none⟩) 1 1) [k] :=
      ((show Bb (w1.alloc (.cells #[.int .u8 (w8 k)] 5)) w1.heap.size 5 [k] from Bk.made w1 5 _).owns (n := 1) rfl (by omega)).own (Nat.le_refl _) 1 rfl
    have Hown := Lib.hid hown
    have hbo := Lib.hid (below_new w1 (.cells #[.int .u8 (w8 k)] 5))
    have HRo := Lib.hid (HR.out.ext hbo.out)
    clear hown
    go_wp2_with (first | (at_builtin; go_loud (refine wpList_append_bytes rfl (.tmp 17) (.tmp 18) rfl w1.heap.size w1 _ [k] rfl Hown.out A n c l rfl HRo.out (by simp; omega) hbo.out hbo.out.size (1 + n) (by simp) ?_; intro A2 c2 w2 ho2 hb2 hs2; have HR2 := Lib.hid (show RdB w2 A2 (1 + n) c2 (k :: l) from ho2.out.rd); have Hb2 := Lib.hid hb2; clear ho2 hb2)) | fail)
    have HG := Lib.hid (eget_prov A2 (1 + n) c2 (k :: l) w2 HR2.out)
    with_reducible refine HG.out.mono ?_
    rintro er w3 ⟨x, A3, n3, c3, v3, rfl, hg3, hb3, hp3⟩
    obtain ⟨hr3, hv3⟩ := hg3
    have hst3 := stE_newAt w3 w3.heap.size rfl x.kind x.topic x.group x.part x.parts x.first x.off x.bat.time x.bat.prod x.bat.seq A3 n3 c3 #[.int .i64 0, .string ⟨#[]⟩, .string ⟨#[]⟩, .int .i64 0, .int .i64 0, .int .i64 0, .int .i64 0, .int .i64 0, .int .i64 0, .int .i64 0, .slice none 0 0] rfl
    have hbn3 := below_new w3 (.cells #[.int .i64 x.kind, .string x.topic, .string x.group, .int .i64 x.part, .int .i64 x.parts, .int .i64 x.first, .int .i64 x.off, .int .i64 x.bat.time, .int .i64 x.bat.prod, .int .i64 x.bat.seq, .slice A3 n3 c3] 26)
    have hk3 := Bk.made w3 26 #[.int .i64 x.kind, .string x.topic, .string x.group, .int .i64 x.part, .int .i64 x.parts, .int .i64 x.first, .int .i64 x.off, .int .i64 x.bat.time, .int .i64 x.bat.prod, .int .i64 x.bat.seq, .slice A3 n3 c3]
    have hlb3 := ldB_of_ent hk3
    have hbz := Hb2.out.trans (below_le hs2 (hb3.trans (below_le hb3.size hbn3)))
    have hz := Hz.out.ext hbz
    have hst := stA_row hz rfl 0 x.kind x.topic x.group x.part x.parts x.first x.off 0 0 x.bat.time x.bat.prod x.bat.seq A3 n3 c3
    have Hz3 := Lib.hid hz
    have HB3 := Lib.hid (HB.out.trans (below_le HB.out.size hbz))
    have HR3 := Lib.hid (RdT.ext hr3 hbn3)
    have Hp3 := Lib.hid hp3
    have Hv3 := Lib.hid hv3
    clear hr3 hv3 hb3 hp3 hbn3 hk3 hbz hz HG
    go_wp2_with fail
    refine bodyPost_ret (res_ask (u := 5) rfl _ _ w.heap.size 0 x.kind x.topic x.group x.part x.parts x.first x.off 0 0 x.bat.time x.bat.prod x.bat.seq A3 n3 c3 rfl (Bk.row Hz3.out _)) rfl ⟨ofE x, A3, n3, c3, v3, rfl, ⟨RdT.kept HR3.out (grown_row _ _ _) (fun ad e e2 => ?_), (fun ad e => Nat.le_trans (Nat.le_of_lt (Nat.lt_of_lt_of_le hlt hs2)) (Hp3.out ad e)), ?_⟩, below_row HB3.out HB3.out.size (Nat.le_refl _) _⟩
    · have h1 := Hp3.out ad e
      have := Option.some.inj e2
      omega
    · rcases Hv3.out with ⟨h1, h2⟩ | ⟨_, d, e, h1, h2, h3⟩
      · refine .inl ⟨h1, ?_⟩
        unfold bodyA
        rw [if_pos Hw.out, h2]
      · refine .inr ⟨d + 1, e, by omega, h2, ?_⟩
        unfold bodyA
        rw [if_pos Hw.out, h3]
end Go.Proofs.YtpfdbbcfcimmfaaGreatDoor

/-
  ask: Get.
-/
namespace Go.Proofs.YtpfdbbcfcimmfaaGreatDoor
open Go.RowKit
attribute [local go_sem ↓] ldB_eq stB_eq ldE_eq stE_eq ldA_eq stA_eq sliced_past
attribute [local go_sem] isA_drew isA_alloc stA_if pastA_zero pastA_some w8_nn w8_256 wrap_i64_w8 wrap64_w8

theorem wrapN_small (a : Nat) (h : a < 4294967296) : wrapN a = (a : Int) := by
  unfold wrapN
  rw [if_pos (by omega)]
theorem or4 (c0 c1 c2 c3 : UInt8) : bits .or .i64 (bits .or .i64 (bits .or .i64 (w8 c0) (wrap64 (w8 c1 * 256))) (wrap64 (w8 c2 * 65536))) (wrap64 (w8 c3 * 16777216)) = corr4 c0 c1 c2 c3 := by
  have h0 := c0.toNat_lt
  have h1 := c1.toNat_lt
  have h2 := c2.toNat_lt
  have h3 := c3.toNat_lt
  have s1 := or_step c0.toNat 1 c1 (by omega) (by omega)
  have s2 := or_step (c0.toNat + 256 * c1.toNat) 2 c2 (by omega) (by omega)
  have s3 := or_step (c0.toNat + 256 * c1.toNat + 65536 * c2.toNat) 3 c3 (by omega) (by omega)
  simp only [Nat.reduceMul, Int.reducePow, Nat.reducePow] at s1 s2 s3
  rw [wrapN_small _ (by omega), wrapN_small _ (by omega)] at s1 s2 s3
  rw [show w8 c0 = (c0.toNat : Int) from rfl, s1, s2, s3]
  unfold corr4 w8
  omega
theorem six_bytes {w : World} {A : Option Addr} {n c : Nat} {l : List UInt8} (h : RdB w A n c l) (hn : 6 ≤ n) : ∃ (ad : Addr) (v k c0 c1 c2 c3 : UInt8) (r : List UInt8), A = some ad ∧ l = v :: k :: c0 :: c1 :: c2 :: c3 :: r ∧ ad.block < w.heap.size ∧ w.cell? (ad.add 0) = some (.int .u8 (w8 v)) ∧ w.cell? (ad.add 1) = some (.int .u8 (w8 k)) ∧ w.cell? (ad.add 2) = some (.int .u8 (w8 c0)) ∧ w.cell? (ad.add 3) = some (.int .u8 (w8 c1)) ∧ w.cell? (ad.add 4) = some (.int .u8 (w8 c2)) ∧ w.cell? (ad.add 5) = some (.int .u8 (w8 c3)) := by
  have hl := h.len
  match l, hl, h with
  | v :: k :: c0 :: c1 :: c2 :: c3 :: r, hl, h =>
    have g : ∀ i (x : UInt8), (v :: k :: c0 :: c1 :: c2 :: c3 :: r)[i]? = some x → ∃ ad, A = some ad ∧ ad.block < w.heap.size ∧ w.cell? (ad.add i) = some (.int .u8 (w8 x)) := by
      intro i x hx
      obtain ⟨ad, e1, hw, e3⟩ := Rd.cell h i (.int .u8 (w8 x)) (by unfold bvs; rw [List.getElem?_map, hx]; rfl)
      exact ⟨ad, e1, hw, e3⟩
    obtain ⟨ad, rfl, hw, d0⟩ := g 0 v rfl
    obtain ⟨a1, e1, _, d1⟩ := g 1 k rfl
    obtain ⟨a2, e2, _, d2⟩ := g 2 c0 rfl
    obtain ⟨a3, e3, _, d3⟩ := g 3 c1 rfl
    obtain ⟨a4, e4, _, d4⟩ := g 4 c2 rfl
    obtain ⟨a5, e5, _, d5⟩ := g 5 c3 rfl
    injection e1 with e1; injection e2 with e2; injection e3 with e3; injection e4 with e4; injection e5 with e5
    subst e1 e2 e3 e4 e5
    exact ⟨_, v, k, c0, c1, c2, c3, r, rfl, rfl, hw, d0, d1, d2, d3, d4, d5⟩
  | [], hl, _ => exact absurd hl (by simp; omega)
  | [_], hl, _ => exact absurd hl (by simp; omega)
  | [_, _], hl, _ => exact absurd hl (by simp; omega)
  | [_, _, _], hl, _ => exact absurd hl (by simp; omega)
  | [_, _, _, _], hl, _ => exact absurd hl (by simp; omega)
  | [_, _, _, _, _], hl, _ => exact absurd hl (by simp; omega)
/-- what Get hands back -/
def GetAr (l : List UInt8) (w' : World) (x : Ask) (A : Option Addr) (n c : Nat) (v : Value) : Prop :=
  RdT w' A n c x.bat.vals ∧ ((v = .nilIface ∧ getA l = .ok x) ∨ (∃ co e d, x = noA.num co ∧ d ≤ 2 ∧ IsErr (d + 1) v e ∧ getA l = .error (co, e)))
set_option maxRecDepth 100000 in
set_option maxHeartbeats 4000000 in
theorem aget_any (A : Option Addr) (n c : Nat) (l : List UInt8) (w : World) (hr : RdB w A n c l) (hn : n ≤ 1000000) :
    Calls Tryz.prog 23 #[.slice A n c] w fun er w' => ∃ (x : Ask) (A' : Option Addr) (n' c' : Nat) (v : Value), er = .returned (.tuple #[.agg #[.int .i64 x.corr, .int .i64 x.kind, .string x.topic, .string x.group, .int .i64 x.part, .int .i64 x.parts, .int .i64 x.first, .int .i64 x.off, .int .i64 x.most, .int .i64 x.time, .int .i64 x.bat.time, .int .i64 x.bat.prod, .int .i64 x.bat.seq, .slice A' n' c'], v]) ∧ GetAr l w' x A' n' c' v ∧ Below w.heap.size w w' ∧ (∀ ad, A' = some ad → w.heap.size ≤ ad.block) := by
  have hz := Bk.made w 47 #[.int .i64 0, .int .i64 0, .string ⟨#[]⟩, .string ⟨#[]⟩, .int .i64 0, .int .i64 0, .int .i64 0, .int .i64 0, .int .i64 0, .int .i64 0, .int .i64 0, .int .i64 0, .int .i64 0, .slice none 0 0]
  have hbn := below_new w (.cells #[.int .i64 0, .int .i64 0, .string ⟨#[]⟩, .string ⟨#[]⟩, .int .i64 0, .int .i64 0, .int .i64 0, .int .i64 0, .int .i64 0, .int .i64 0, .int .i64 0, .int .i64 0, .int .i64 0, .slice none 0 0] 47)
  have Hz := Lib.hid hz
  have HB := Lib.hid hbn
  have HR := Lib.hid (hr.ext hbn)
  have hlen := hr.len
  by_cases h6 : n < 6
  · have h6' : (n : Int) < 6 := by omega
    have hst := stA_row hz rfl 0 0 ⟨#[]⟩ ⟨#[]⟩ 0 0 0 0 0 0 0 0 0 none 0 0
    clear hz hbn hr
    go_enter Tryz.func23, Tryz.ntmps23
    go_wp2_with (first | (go_at_call 49; refine (wrap_err (.no 3) _ _ _).mono ?_; rintro er w4 ⟨v4, rfl, he4, rfl⟩) | fail)
    exact bodyPost_ret (res_ask (u := 3) rfl _ _ w.heap.size 0 0 ⟨#[]⟩ ⟨#[]⟩ 0 0 0 0 0 0 0 0 0 none 0 0 rfl (Bk.row Hz.out _)) rfl ⟨noA, none, 0, 0, v4, rfl, ⟨RdT.nil _, .inr ⟨0, 3, 0, rfl, by omega, he4, getA_short (by rw [hlen]; exact h6)⟩⟩, below_row HB.out HB.out.size (Nat.le_refl _) _, fun ad h => by cases h⟩
  · have h6' : ¬ (n : Int) < 6 := by omega
    have hcap := hr.cap
    obtain ⟨ad, v, k, c0, c1, c2, c3, r, rfl, rfl, hadw, d0, d1, d2, d3, d4, d5⟩ := six_bytes HR.out (by omega)
    rw [add_pos' _ _ (by omega)] at d1 d2 d3 d4 d5
    rw [show ad.add 0 = ad by unfold Addr.add; simp] at d0
    have hn6 : (6 : Int) ≤ (n : Int) := by omega
    have hnc : (n : Int) ≤ (c : Int) := by omega
    have hi0 : (0 : Int) < (n : Int) := by omega
    have hi1 : (1 : Int) < (n : Int) := by omega
    have hi2 : (2 : Int) < (n : Int) := by omega
    have hi3 : (3 : Int) < (n : Int) := by omega
    have hi4 : (4 : Int) < (n : Int) := by omega
    have hi5 : (5 : Int) < (n : Int) := by omega
    have hlt : w.heap.size < (w.alloc (.cells #[.int .i64 0, .int .i64 0, .string ⟨#[]⟩, .string ⟨#[]⟩, .int .i64 0, .int .i64 0, .int .i64 0, .int .i64 0, .int .i64 0, .int .i64 0, .int .i64 0, .int .i64 0, .int .i64 0, .slice none 0 0] 47)).heap.size := by simp
    have Hlen := Lib.hid hlen
    clear hz hbn hr hlen
    go_enter Tryz.func23, Tryz.ntmps23
    go_upto_region 3 with fail
    generalize w.alloc (.cells #[.int .i64 0, .int .i64 0, .string ⟨#[]⟩, .string ⟨#[]⟩, .int .i64 0, .int .i64 0, .int .i64 0, .int .i64 0, .int .i64 0, .int .i64 0, .int .i64 0, .int .i64 0, .int .i64 0, .slice none 0 0] 47) = w1 at Hz HB HR hadw d0 d1 d2 d3 d4 d5 hlt ⊢
    go_quiet (fail)
    have hcor := or4 c0 c1 c2 c3
    rw [hcor]
    clear hcor
    have hn0 : w1.heap.size = (w1.drewN nq).heap.size := rfl
    have hdn := below_drawn (Below.refl w1.heap.size w1) nq
    have Hz2 := Lib.hid (Hz.out.ext hdn)
    have HB2 := Lib.hid (HB.out.trans (below_le HB.out.size hdn))
    have HR2 := Lib.hid (HR.out.ext hdn)
    have e0 : (w1.drewN nq).cell? ad = some (.int .u8 (w8 v)) := d0
    have e1 : (w1.drewN nq).cell? ⟨ad.block, ad.off + 1, none⟩ = some (.int .u8 (w8 k)) := d1
    have hlt2 : w.heap.size < (w1.drewN nq).heap.size := hlt
    have hadw2 : ad.block < (w1.drewN nq).heap.size := hadw
    clear hdn d0 d1 d2 d3 d4 d5 hlt hadw Hz HB HR
    generalize w1.drewN nq = w2 at Hz2 HB2 HR2 e0 e1 hlt2 hadw2 ⊢
    clear hn0
    obtain ⟨co, hco⟩ : ∃ co, corr4 c0 c1 c2 c3 = co := ⟨_, rfl⟩
    rw [hco]
    have Hco := Lib.hid hco
    clear hco
    by_cases hv1 : w8 v = 1
    · have hvn : (w8 v != 1) = false := by simp [hv1]
      have Hv1 := Lib.hid hv1
      clear hv1
      go_upto_region 6 with fail
      have hrp := HR2.out.past' 6 (by omega)
      have HRp := Lib.hid (show RdB w2 (pastA (some ad) 6 c 1) (n - 6) (c - 6) r from hrp)
      clear hrp
      have FS : Hid (∀ w', Below w2.heap.size w2 w' → (Below w2.heap.size w2 w' ∧ w'.cell? ⟨ad.block, ad.off + 1, none⟩ = some (.int .u8 (w8 k)))) := fun w' hb => ⟨hb, (hb.cell (p := ⟨ad.block, ad.off + 1, none⟩) hadw2).trans e1⟩
      have KA : Hid (∀ (w' : World) (o : Obj) (R : Prop), Below w2.heap.size w2 w' ∧ R → Below w2.heap.size w2 (w'.alloc o)) := fun w' o R h => h.1.alloc h.1.size o
      have KD : Hid (∀ (w' : World) (o : Obj) (R : Prop), Below w2.heap.size w2 w'.drew ∧ R → Below w2.heap.size w2 (w'.alloc o).drew) := fun w' o R h => h.1.alloc h.1.size o
      have KR : Hid (∀ (w' : World) (g : Nat) (r : Array Value) (R : Prop), Below w2.heap.size w2 w' ∧ R → w2.heap.size ≤ g → Below w2.heap.size w2 (w'.setRow g r)) := fun w' g r R h hg => below_row h.1 h.1.size hg r
      have KC : Hid (∀ (w' w'' : World) (R : Prop), Below w2.heap.size w2 w' ∧ R → Below w'.heap.size w' w'' → Below w2.heap.size w2 w'') := fun w' w'' R h hb => h.1.trans (below_le h.1.size hb)
      have HBd : Hid (∀ (w' : World) (R : Prop), Below w2.heap.size w2 w' ∧ R → Calls Tryz.prog 54 #[.int .i64 (w8 k), .slice (pastA (some ad) 6 c 1) (n - 6) (c - 6)] w' fun er w'' => ∃ (x : Ask) (A' : Option Addr) (n' c' : Nat) (v : Value), er = .returned (.tuple #[.agg #[.int .i64 x.corr, .int .i64 x.kind, .string x.topic, .string x.group, .int .i64 x.part, .int .i64 x.parts, .int .i64 x.first, .int .i64 x.off, .int .i64 x.most, .int .i64 x.time, .int .i64 x.bat.time, .int .i64 x.bat.prod, .int .i64 x.bat.seq, .slice A' n' c'], v]) ∧ BodyR w'.heap.size k r w'' x A' n' c' v ∧ Below w'.heap.size w' w'') := fun w' R h => body_any k _ _ _ r w' (RdB.ext HRp.out h.1) (by omega)
      go_cut [5, 6] from 44 to 69 (fun s5 s6 wx => ∃ (x : Ask) (A5 : Option Addr) (n5 c5 : Nat) (v5 : Value) (g5 : Nat), s5 = .pointer (some ⟨g5, 0, none⟩) ∧ s6 = v5 ∧ Bk wx g5 47 #[.int .i64 x.corr, .int .i64 x.kind, .string x.topic, .string x.group, .int .i64 x.part, .int .i64 x.parts, .int .i64 x.first, .int .i64 x.off, .int .i64 x.most, .int .i64 x.time, .int .i64 x.bat.time, .int .i64 x.bat.prod, .int .i64 x.bat.seq, .slice A5 n5 c5] ∧ w2.heap.size ≤ g5 ∧ (∀ ad, A5 = some ad → w2.heap.size ≤ ad.block) ∧ (∀ w', wx.grownBy w' (some g5) → RdT w' A5 n5 c5 x.bat.vals) ∧ ((v5 = .nilIface ∧ bodyA k r = .ok x) ∨ (∃ d e, d ≤ 2 ∧ IsErr d v5 e ∧ bodyA k r = .error e)) ∧ Below w2.heap.size w2 wx)
      case first =>
        go_region_held3 (fun w' => Below w2.heap.size w2 w' ∧ w'.cell? ⟨ad.block, ad.off + 1, none⟩ = some (.int .u8 (w8 k))) (first | exact FS.out _ (below_drew1 (Below.refl _ _)) | exact FS.out _ (KA.out _ _ _ (by assumption)) | exact FS.out _ (KD.out _ _ _ (by assumption)) | exact FS.out _ (KR.out _ _ _ _ (by assumption) (by first | exact Nat.le_refl _ | omega)) | exact FS.out _ (KC.out _ _ _ (by assumption) (by exact hb5))) (first | (go_at_call 54; with_reducible refine (HBd.out _ _ (by assumption)).mono ?_; rintro er w5 ⟨x, A5, n5, c5, v5, rfl, hbr, hb5⟩; have Hbr := Lib.hid hbr; clear hbr; have hI5 : ∀ G, isA _ G → isA w5 G := fun G h => h.ext hb5; have hz5 : w2.heap.size ≤ w5.heap.size := (KC.out _ _ _ (by assumption) hb5).size) | fail)
        all_goals (go_wp2_with fail; go_meet; have s5 := hb5.size; have p5 := Hbr.out.2.1; simp at s5 p5)
        · refine ⟨x, A5, n5, c5, v5, _, rfl, rfl, isA.setBk (by simp [isA_alloc]) _, by omega, fun ad e => by have := p5 ad e; omega, fun w' hg => ?_, Hbr.out.2.2, (‹Below w2.heap.size w2 _ ∧ _›).1⟩
          first
            | exact RdT.ext Hbr.out.1 (below_grown (below_row (below_new w5 _) (by simp) (Nat.le_refl _) _) (by simp [World.setRow]) hg (Nat.le_refl _))
            | exact RdT.kept (RdT.kept Hbr.out.1 (grown_row _ _ _) (fun ad e e2 => by have := p5 ad e; have := Option.some.inj e2; omega)) hg (fun ad e e2 => by have := p5 ad e; have := Option.some.inj e2; omega)
        · refine ⟨x, A5, n5, c5, v5, _, rfl, rfl, isA.setBk (by simp [isA_alloc, isA_drew, hI5]) _, by omega, fun ad e => by have := p5 ad e; omega, fun w' hg => ?_, Hbr.out.2.2, (‹Below w2.heap.size w2 _ ∧ _›).1⟩
          first
            | exact RdT.ext Hbr.out.1 (below_grown (below_row (below_new w5 _) (by simp) (Nat.le_refl _) _) (by simp [World.setRow]) hg (Nat.le_refl _))
            | exact RdT.kept (RdT.kept Hbr.out.1 (grown_row _ _ _) (fun ad e e2 => by have := p5 ad e; have := Option.some.inj e2; omega)) hg (fun ad e e2 => by have := p5 ad e; have := Option.some.inj e2; omega)
      case rest =>
        obtain ⟨x, A5, n5, c5, v5, g5, rfl, rfl, hk5, hg5, hp5, hrk, hbv, hbx⟩ := hcut
        clear FS KA KD KR KC HBd HRp
        have c5' := hk5.cell 0
        have f5' := hk5.thaw 0
        have hk7 : Bk (wc.setCell ⟨g5, 0, none⟩ (.int .i64 co)) g5 47 #[.int .i64 co, .int .i64 x.kind, .string x.topic, .string x.group, .int .i64 x.part, .int .i64 x.parts, .int .i64 x.first, .int .i64 x.off, .int .i64 x.most, .int .i64 x.time, .int .i64 x.bat.time, .int .i64 x.bat.prod, .int .i64 x.bat.seq, .slice A5 n5 c5] := hk5.put 0 (.int .i64 co)
        have HK7 := Lib.hid hk7
        have HR7 := Lib.hid (hrk _ (grown_set wc ⟨g5, 0, none⟩ (.int .i64 co)))
        have hb27 := below_grown hbx hbx.size (grown_set wc ⟨g5, 0, none⟩ (.int .i64 co)) hg5
        have HZ7 := Lib.hid (Hz2.out.ext hb27)
        have HB7 := Lib.hid (HB2.out.trans (below_le HB2.out.size hb27))
        have Hp5 := Lib.hid hp5
        clear hk7 hk5 hrk hb27 hbx hp5 e0 e1
        rcases hbv with ⟨rfl, hbo⟩ | ⟨d, e, hd, hke, hbo⟩
        · obtain ⟨r8, hr8⟩ : ∃ r8, rightA (x.num co) = r8 := ⟨_, rfl⟩
          have HRt : Hid (Calls Tryz.prog 26 #[.agg #[.int .i64 co, .int .i64 x.kind, .string x.topic, .string x.group, .int .i64 x.part, .int .i64 x.parts, .int .i64 x.first, .int .i64 x.off, .int .i64 x.most, .int .i64 x.time, .int .i64 x.bat.time, .int .i64 x.bat.prod, .int .i64 x.bat.seq, .slice A5 n5 c5]] (wc.setCell ⟨g5, 0, none⟩ (.int .i64 co)) fun er w' => er = .returned (.bool r8) ∧ Below (wc.setCell ⟨g5, 0, none⟩ (.int .i64 co)).heap.size (wc.setCell ⟨g5, 0, none⟩ (.int .i64 co)) w') := aRight_any (x.num co) A5 n5 c5 _ HR7.out r8 hr8
          have Hbo := Lib.hid hbo
          have Hr8 := Lib.hid hr8
          have l7 := ldA_bk HK7.out
          clear hbo hr8
          go_wp2_with fail
          with_reducible refine HRt.out.mono ?_
          rintro er w8' ⟨rfl, hb8⟩
          have l8 := ldA_bk (HK7.out.ext hb8)
          have HZ8 := Lib.hid (HZ7.out.ext hb8)
          have HR8 := Lib.hid (RdT.ext HR7.out hb8)
          have HB8 := Lib.hid (HB7.out.trans (below_le HB7.out.size hb8))
          clear hb8 l7 HRt c5' f5'
          cases r8
          · have hst := stA_row HZ8.out rfl co 0 ⟨#[]⟩ ⟨#[]⟩ 0 0 0 0 0 0 0 0 0 none 0 0
            go_wp2_with (first | (go_at_call 49; refine (wrap_err (.no 2) _ _ _).mono ?_; rintro er w4 ⟨v4, rfl, he4, rfl⟩) | fail)
            refine bodyPost_ret (res_ask (u := 3) rfl _ _ w.heap.size co 0 ⟨#[]⟩ ⟨#[]⟩ 0 0 0 0 0 0 0 0 0 none 0 0 rfl (Bk.row HZ8.out _)) rfl ⟨noA.num co, none, 0, 0, v4, rfl, ⟨RdT.nil _, .inr ⟨co, 2, 0, rfl, by omega, he4, ?_⟩⟩, below_row HB8.out HB8.out.size (Nat.le_refl _) _, fun ad h => by cases h⟩
            show getA6 v k c0 c1 c2 c3 r = _
            unfold getA6
            rw [if_pos Hv1.out, Hbo.out, Hco.out]
            show (if rightA (x.num co) = true then _ else _) = _
            rw [Hr8.out]
            rfl
          · have hst := stA_row HZ8.out rfl co x.kind x.topic x.group x.part x.parts x.first x.off x.most x.time x.bat.time x.bat.prod x.bat.seq A5 n5 c5
            go_wp2_with fail
            refine bodyPost_ret (res_ask (u := 3) rfl _ _ w.heap.size co x.kind x.topic x.group x.part x.parts x.first x.off x.most x.time x.bat.time x.bat.prod x.bat.seq A5 n5 c5 rfl (Bk.row HZ8.out _)) rfl ⟨x.num co, A5, n5, c5, .nilIface, rfl, ⟨RdT.kept HR8.out (grown_row _ _ _) (fun ad e e2 => ?_), .inl ⟨rfl, ?_⟩⟩, below_row HB8.out HB8.out.size (Nat.le_refl _) _, fun ad e => Nat.le_trans (Nat.le_of_lt hlt2) (Hp5.out ad e)⟩
            · have h1 := Hp5.out ad e
              have := Option.some.inj e2
              omega
            · show getA6 v k c0 c1 c2 c3 r = _
              unfold getA6
              rw [if_pos Hv1.out, Hbo.out, Hco.out]
              show (if rightA (x.num co) = true then _ else _) = _
              rw [Hr8.out]
              rfl
        · have hen := hke.ne_nil
          have heg := hke.guard 55
          have hne := hke.ne
          have hgu := hke.guardN 63
          have Hke := Lib.hid hke
          have Hbo := Lib.hid hbo
          have hst := stA_row HZ7.out rfl co 0 ⟨#[]⟩ ⟨#[]⟩ 0 0 0 0 0 0 0 0 0 none 0 0
          clear hke hbo
          go_wp2_with (first | (go_at_call 49; refine (wrap_err Hke.out _ _ _).mono ?_; rintro er w4 ⟨v4, rfl, he4, rfl⟩) | fail)
          refine bodyPost_ret (res_ask (u := 3) rfl _ _ w.heap.size co 0 ⟨#[]⟩ ⟨#[]⟩ 0 0 0 0 0 0 0 0 0 none 0 0 rfl (Bk.row HZ7.out _)) rfl ⟨noA.num co, none, 0, 0, v4, rfl, ⟨RdT.nil _, .inr ⟨co, e, d, rfl, hd, he4, ?_⟩⟩, below_row HB7.out HB7.out.size (Nat.le_refl _) _, fun ad h => by cases h⟩
          show getA6 v k c0 c1 c2 c3 r = _
          unfold getA6
          rw [if_pos Hv1.out, Hbo.out, Hco.out]
    · have hvn : (w8 v != 1) = true := by simp [hv1]
      have hst := stA_row Hz2.out rfl co 0 ⟨#[]⟩ ⟨#[]⟩ 0 0 0 0 0 0 0 0 0 none 0 0
      have Hv1 := Lib.hid hv1
      clear hv1
      go_wp2_with (first | (go_at_call 49; refine (wrap_err (.no 14) _ _ _).mono ?_; rintro er w4 ⟨v4, rfl, he4, rfl⟩) | fail)
      refine bodyPost_ret (res_ask (u := 3) rfl _ _ w.heap.size co 0 ⟨#[]⟩ ⟨#[]⟩ 0 0 0 0 0 0 0 0 0 none 0 0 rfl (Bk.row Hz2.out _)) rfl ⟨noA.num co, none, 0, 0, v4, rfl, ⟨RdT.nil _, .inr ⟨co, 14, 0, rfl, by omega, he4, ?_⟩⟩, below_row HB2.out HB2.out.size (Nat.le_refl _) _, fun ad h => by cases h⟩
      show getA6 v k c0 c1 c2 c3 r = _
      unfold getA6
      rw [if_neg Hv1.out, Hco.out]
end Go.Proofs.YtpfdbbcfcimmfaaGreatDoor

/-
  ask: Get, at bytes that are an ask, at bytes that are none.
-/
namespace Go.Proofs.YtpfdbbcfcimmfaaGreatDoor
open Go.RowKit

theorem aget_err (A : Option Addr) (n c : Nat) (l : List UInt8) (w : World) (hr : RdB w A n c l) (hn : n ≤ 1000000) (co e : Int) (hg : getA l = .error (co, e)) :
    Calls Tryz.prog 23 #[.slice A n c] w fun er w' => ∃ (A' : Option Addr) (n' c' : Nat) (v : Value) (d : Nat), er = .returned (.tuple #[.agg #[.int .i64 co, .int .i64 0, .string ⟨#[]⟩, .string ⟨#[]⟩, .int .i64 0, .int .i64 0, .int .i64 0, .int .i64 0, .int .i64 0, .int .i64 0, .int .i64 0, .int .i64 0, .int .i64 0, .slice A' n' c'], v]) ∧ RdT w' A' n' c' [] ∧ d ≤ 2 ∧ IsErr (d + 1) v e ∧ Below w.heap.size w w' := by
  refine (aget_any A n c l w hr hn).mono ?_
  rintro er w' ⟨x, A', n', c', v, rfl, ⟨hx, hv⟩, hb, _⟩
  rcases hv with ⟨_, h⟩ | ⟨co', e', d, rfl, hd, hke, h⟩
  · rw [hg] at h
    cases h
  · rw [hg] at h
    injection h with h
    injection h with h1 h2
    subst h1 h2
    exact ⟨A', n', c', v, d, rfl, hx, hd, hke, hb⟩
theorem aget_ok (A : Option Addr) (n c : Nat) (l : List UInt8) (w : World) (hr : RdB w A n c l) (hn : n ≤ 1000000) (x : Ask) (hg : getA l = .ok x) :
    Calls Tryz.prog 23 #[.slice A n c] w fun er w' => ∃ (A' : Option Addr) (n' c' : Nat), er = .returned (.tuple #[.agg #[.int .i64 x.corr, .int .i64 x.kind, .string x.topic, .string x.group, .int .i64 x.part, .int .i64 x.parts, .int .i64 x.first, .int .i64 x.off, .int .i64 x.most, .int .i64 x.time, .int .i64 x.bat.time, .int .i64 x.bat.prod, .int .i64 x.bat.seq, .slice A' n' c'], .nilIface]) ∧ RdT w' A' n' c' x.bat.vals ∧ Below w.heap.size w w' ∧ (∀ ad, A' = some ad → w.heap.size ≤ ad.block) := by
  refine (aget_any A n c l w hr hn).mono ?_
  rintro er w' ⟨x', A', n', c', v, rfl, ⟨hx, hv⟩, hb, hp⟩
  rcases hv with ⟨rfl, h⟩ | ⟨co', e', d, rfl, hd, hke, h⟩
  · rw [hg] at h
    injection h with h
    subst h
    exact ⟨A', n', c', rfl, hx, hb, hp⟩
  · rw [hg] at h
    cases h
end Go.Proofs.YtpfdbbcfcimmfaaGreatDoor
