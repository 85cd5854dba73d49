import Derived.Test.YtkdlofgfkfhofaaGreatDoorP19
import Derived.Test.YtkdlofgfkfhofaaGreatDoorP01
import Derived.Deep.MidRow
import Derived.Deep.WholeRow
/-
  Batches and entries, as bytes and back: plain lists.
-/
namespace Go.Proofs.YtkdlofgfkfhofaaGreatDoor
open Go.RowKit

structure Bat where
  time : Int
  prod : Int
  seq : Int
  vals : List ByteArray
def noB : Bat := ⟨0, 0, 0, []⟩
def nul : ByteArray := ⟨#[]⟩
def nV (n : Int) : Val := ⟨n, nul, []⟩
def sV (s : ByteArray) : Val := ⟨0, s, []⟩
def lV (l : List ByteArray) : Val := ⟨0, nul, l⟩
def nF (size lo hi : Int) : Fld := ⟨1, size, lo, hi, 0⟩
def sF (lo hi : Int) : Fld := ⟨2, 0, lo, hi, 0⟩
def batF : List Fld := [nF 8 0 1125899906842624, nF 4 0 1048576, nF 8 0 1099511627776, ⟨3, 0, 1, 8, 60⟩]
def batV (b : Bat) : List Val := [nV b.time, nV b.prod, nV b.seq, lV b.vals]
def rightB (b : Bat) : Bool := okAll batF (batV b) && (decide (0 < b.prod) || decide (b.seq = 0))
def putB (b : Bat) : List UInt8 := if rightB b then bytesAll batF (batV b) else []
def madeB : List Val → Bat
  | [v0, v1, v2, v3] => ⟨v0.n, v1.n, v2.n, v3.l⟩
  | _ => noB
def getB (bs : List UInt8) : Except Int Bat :=
  match getAll batF bs with
  | .error k => .error k
  | .ok vs => if rightB (madeB vs) then .ok (madeB vs) else .error 2

theorem fits_num {f : Fld} (hf : f.kind = 1) {v : Val} (h : fitsV f v = true) : ∃ n, v = nV n ∧ f.lo ≤ n ∧ n ≤ f.hi := by
  obtain ⟨n, s, l⟩ := v
  unfold fitsV inF at h
  rw [if_pos hf] at h
  simp only [Bool.and_eq_true, decide_eq_true_iff, List.isEmpty_iff] at h
  obtain ⟨⟨⟨h1, h2⟩, h3⟩, h4⟩ := h
  exact ⟨n, by rw [zero_str h3, h4]; rfl, h1, h2⟩
theorem fits_text {f : Fld} (hf : f.kind = 2) {v : Val} (h : fitsV f v = true) : ∃ s, v = sV s ∧ f.lo ≤ s.size ∧ (s.size : Int) ≤ f.hi := by
  obtain ⟨n, s, l⟩ := v
  unfold fitsV inF at h
  rw [if_neg (by omega), if_pos hf] at h
  simp only [Bool.and_eq_true, decide_eq_true_iff, List.isEmpty_iff] at h
  obtain ⟨⟨⟨h1, h2⟩, h3⟩, h4⟩ := h
  exact ⟨s, by rw [h3, h4]; rfl, h1, h2⟩
theorem fits_texts {f : Fld} (hf : f.kind = 3) {v : Val} (h : fitsV f v = true) : ∃ l, v = lV l ∧ f.lo ≤ l.length ∧ (l.length : Int) ≤ f.hi ∧ ∀ s ∈ l, (s.size : Int) ≤ f.most := by
  obtain ⟨n, s, l⟩ := v
  unfold fitsV inF at h
  rw [if_neg (by omega), if_neg (by omega)] at h
  simp only [Bool.and_eq_true, decide_eq_true_iff, List.all_eq_true] at h
  obtain ⟨⟨⟨⟨h1, h2⟩, h5⟩, h3⟩, h4⟩ := h
  exact ⟨l, by rw [h3, zero_str h4]; rfl, h1, h2, h5⟩
theorem good_num {size lo hi : Int} (h0 : 0 ≤ lo) (h1 : 0 < size) (h2 : size ≤ 8) (h3 : hi < (256 : Int) ^ size.toNat) : GoodF (nF size lo hi) := ⟨.inl ⟨rfl, h0, h1, h2, h3⟩⟩
theorem good_text {lo hi : Int} (h0 : 0 ≤ lo) (h1 : hi ≤ 65535) : GoodF (sF lo hi) := ⟨.inr (.inl ⟨rfl, h0, h1⟩)⟩
theorem good_bat : ∀ f ∈ batF, GoodF f := by
  intro f hf
  unfold batF at hf
  simp only [List.mem_cons, List.not_mem_nil, or_false] at hf
  rcases hf with rfl | rfl | rfl | rfl
  · exact good_num (by decide) (by decide) (by decide) (by decide)
  · exact good_num (by decide) (by decide) (by decide) (by decide)
  · exact good_num (by decide) (by decide) (by decide) (by decide)
  · exact ⟨.inr (.inr ⟨rfl, by decide, by decide, by decide⟩)⟩
theorem bat_shape {vs : List Val} (h : okAll batF vs = true) : ∃ b, vs = batV b ∧ madeB vs = b := by
  unfold batF at h
  obtain ⟨v0, r0, rfl, f0, h⟩ := okAll_cons h
  obtain ⟨v1, r1, rfl, f1, h⟩ := okAll_cons h
  obtain ⟨v2, r2, rfl, f2, h⟩ := okAll_cons h
  obtain ⟨v3, r3, rfl, f3, h⟩ := okAll_cons h
  obtain rfl := okAll_nil h
  obtain ⟨n0, rfl, _⟩ := fits_num rfl f0
  obtain ⟨n1, rfl, _⟩ := fits_num rfl f1
  obtain ⟨n2, rfl, _⟩ := fits_num rfl f2
  obtain ⟨l3, rfl, _⟩ := fits_texts rfl f3
  exact ⟨⟨n0, n1, n2, l3⟩, rfl, rfl⟩
theorem getB_inv {bs : List UInt8} {b : Bat} (h : getB bs = .ok b) : rightB b = true ∧ putB b = bs := by
  unfold getB at h
  split at h
  · cases h
  · rename_i vs hv
    obtain ⟨h1, h2⟩ := getAll_inv batF bs vs good_bat hv
    obtain ⟨b', rfl, e⟩ := bat_shape h1
    rw [e] at h
    split at h
    · rename_i hr
      injection h with h
      subst h
      refine ⟨hr, ?_⟩
      unfold putB
      rw [if_pos hr]
      exact h2
    · cases h
theorem flat_len_le (l : List ByteArray) (h : ∀ s ∈ l, (s.size : Int) ≤ 60) : (l.flatMap txtB).length ≤ 62 * l.length := by
  induction l with
  | nil => simp
  | cons s l ih =>
    have h1 := ih (fun x hx => h x (List.mem_cons_of_mem _ hx))
    have h2 := h s List.mem_cons_self
    rw [List.flatMap_cons, List.length_append, List.length_cons, txtB_len]
    omega
theorem putB_len (b : Bat) : (putB b).length ≤ 517 := by
  unfold putB
  split
  · rename_i h
    unfold rightB at h
    rw [Bool.and_eq_true] at h
    have h := h.1
    unfold batF batV at h
    obtain ⟨v0, r0, e, f0, h⟩ := okAll_cons h
    obtain ⟨v1, r1, e1, f1, h⟩ := okAll_cons h
    obtain ⟨v2, r2, e2, f2, h⟩ := okAll_cons h
    obtain ⟨v3, r3, e3, f3, h⟩ := okAll_cons h
    injection e with _ e
    subst e
    injection e1 with _ e1
    subst e1
    injection e2 with _ e2
    subst e2
    injection e3 with e3 _
    subst e3
    obtain ⟨l, e, h1, h2, h3⟩ := fits_texts rfl f3
    have el : b.vals = l := congrArg Val.l e
    have := flat_len_le l h3
    have h2 : (l.length : Int) ≤ 8 := h2
    show (leB 8 _ ++ (leB 4 _ ++ (leB 8 _ ++ ((leB 1 _ ++ b.vals.flatMap txtB) ++ [])))).length ≤ 517
    simp only [List.length_append, leB_len, List.length_nil, el]
    omega
  · exact Nat.zero_le _

/-- an entry -/
structure Ent where
  kind : Int
  topic : ByteArray
  group : ByteArray
  part : Int
  parts : Int
  first : Int
  off : Int
  bat : Bat
def noE : Ent := ⟨0, nul, nul, 0, 0, 0, 0, noB⟩
def nameF : Fld := sF 1 24
def partF : Fld := nF 1 0 3
def offF : Fld := nF 8 0 9223372036854775807
def fldsE (k : Int) : List Fld :=
  if k = 1 then [nameF, nF 1 1 4, offF] else if k = 2 then [nameF] else if k = 3 then [nameF, partF, sF 1 600] else if k = 4 then [nameF, nameF, partF, offF] else if k = 5 then [nameF, partF, offF] else []
def batS (b : Bat) : ByteArray := ⟨(putB b).toArray⟩
def valsE (e : Ent) : List Val :=
  if e.kind = 1 then [sV e.topic, nV e.parts, nV e.first] else if e.kind = 2 then [sV e.topic] else if e.kind = 3 then [sV e.topic, nV e.part, sV (batS e.bat)] else if e.kind = 4 then [sV e.group, sV e.topic, nV e.part, nV e.off]
  else if e.kind = 5 then [sV e.topic, nV e.part, nV e.off] else []
def v0 (vs : List Val) (k : Nat) : Val := vs.getD k ⟨0, nul, []⟩
def batOf (x : Except Int Bat) : Bat := match x with | .ok b => b | .error _ => noB
def madeE (k : Int) (vs : List Val) : Ent :=
  if k = 1 then ⟨k, (v0 vs 0).s, nul, 0, (v0 vs 1).n, (v0 vs 2).n, 0, noB⟩ else if k = 2 then ⟨k, (v0 vs 0).s, nul, 0, 0, 0, 0, noB⟩ else if k = 3 then ⟨k, (v0 vs 0).s, nul, (v0 vs 1).n, 0, 0, 0, batOf (getB (v0 vs 2).s.data.toList)⟩
  else if k = 4 then ⟨k, (v0 vs 1).s, (v0 vs 0).s, (v0 vs 2).n, 0, 0, (v0 vs 3).n, noB⟩ else if k = 5 then ⟨k, (v0 vs 0).s, nul, (v0 vs 1).n, 0, 0, (v0 vs 2).n, noB⟩ else ⟨k, nul, nul, 0, 0, 0, 0, noB⟩
/-- has what was made of values an error beside it -/
def badE (k : Int) (vs : List Val) : Option Int := if k = 3 then (match getB (v0 vs 2).s.data.toList with | .ok _ => none | .error c => some c) else none
def sameB (a b : Bat) : Bool := decide (a.time = b.time) && decide (a.prod = b.prod) && decide (a.seq = b.seq) && decide (a.vals = b.vals)
def sameR (a b : Ent) : Bool := decide (a.kind = b.kind) && decide (a.topic = b.topic) && decide (a.group = b.group) && decide (a.part = b.part) && decide (a.parts = b.parts) && decide (a.first = b.first) && decide (a.off = b.off)
def namesE (e : Ent) : Bool := nameOk e.topic && (decide (e.kind ≠ 4) || nameOk e.group)
def rightE (e : Ent) : Bool :=
  okAll (fldsE e.kind) (valsE e) && (!(valsE e).isEmpty && ((badE e.kind (valsE e)).isNone && (namesE e && (sameR (madeE e.kind (valsE e)) e && sameB (madeE e.kind (valsE e)).bat e.bat))))
def putE (e : Ent) : List UInt8 := if rightE e then UInt8.ofNat e.kind.toNat :: bytesAll (fldsE e.kind) (valsE e) else []
def getE1 (b : UInt8) (r : List UInt8) : Except Int Ent :=
  if w8 b < 1 ∨ 5 < w8 b then .error 2
  else match getAll (fldsE (w8 b)) r with
    | .error c => .error c
    | .ok vs => if (badE (w8 b) vs).isNone = true ∧ rightE (madeE (w8 b) vs) = true then .ok (madeE (w8 b) vs) else .error 2
def getE : List UInt8 → Except Int Ent
  | [] => .error 3
  | b :: r => getE1 b r

theorem sameB_iff {a b : Bat} : sameB a b = true ↔ a = b := by
  obtain ⟨a1, a2, a3, a4⟩ := a
  obtain ⟨b1, b2, b3, b4⟩ := b
  simp [sameB, and_assoc]
theorem same_iff {a b : Ent} : (sameR a b = true ∧ sameB a.bat b.bat = true) ↔ a = b := by
  rw [sameB_iff]
  obtain ⟨a1, a2, a3, a4, a5, a6, a7, a8⟩ := a
  obtain ⟨b1, b2, b3, b4, b5, b6, b7, b8⟩ := b
  simp [sameR, and_assoc]
theorem right_facts {e : Ent} (h : rightE e = true) : okAll (fldsE e.kind) (valsE e) = true ∧ valsE e ≠ [] ∧ badE e.kind (valsE e) = none ∧ namesE e = true ∧ madeE e.kind (valsE e) = e := by
  unfold rightE at h
  simp only [Bool.and_eq_true, Bool.not_eq_true', List.isEmpty_eq_false_iff, Option.isNone_iff_eq_none] at h
  obtain ⟨h1, h2, h3, h4, h5, h6⟩ := h
  exact ⟨h1, h2, h3, h4, same_iff.1 ⟨h5, h6⟩⟩
theorem right_kind {e : Ent} (h : rightE e = true) : 1 ≤ e.kind ∧ e.kind ≤ 5 := by
  have h2 := (right_facts h).2.1
  by_cases hk : 1 ≤ e.kind ∧ e.kind ≤ 5
  · exact hk
  · refine absurd ?_ h2
    unfold valsE
    rw [if_neg (by omega), if_neg (by omega), if_neg (by omega), if_neg (by omega), if_neg (by omega)]
theorem kind_cases {k : Int} (h : 1 ≤ k ∧ k ≤ 5) : k = 1 ∨ k = 2 ∨ k = 3 ∨ k = 4 ∨ k = 5 := by omega
theorem good_name : GoodF nameF := good_text (by decide) (by decide)
theorem good_part : GoodF partF := good_num (by decide) (by decide) (by decide) (by decide)
theorem good_off : GoodF offF := good_num (by decide) (by decide) (by decide) (by decide)
theorem good_parts : GoodF (nF 1 1 4) := good_num (by decide) (by decide) (by decide) (by decide)
theorem good_bt : GoodF (sF 1 600) := good_text (by decide) (by decide)
theorem good_E (k : Int) : ∀ f ∈ fldsE k, GoodF f := by
  intro f hf
  unfold fldsE at hf
  split at hf
  · simp only [List.mem_cons, List.not_mem_nil, or_false] at hf
    rcases hf with rfl | rfl | rfl
    · exact good_name
    · exact good_parts
    · exact good_off
  · split at hf
    · simp only [List.mem_cons, List.not_mem_nil, or_false] at hf
      subst hf
      exact good_name
    · split at hf
      · simp only [List.mem_cons, List.not_mem_nil, or_false] at hf
        rcases hf with rfl | rfl | rfl
        · exact good_name
        · exact good_part
        · exact good_bt
      · split at hf
        · simp only [List.mem_cons, List.not_mem_nil, or_false] at hf
          rcases hf with rfl | rfl | rfl | rfl
          · exact good_name
          · exact good_name
          · exact good_part
          · exact good_off
        · split at hf
          · simp only [List.mem_cons, List.not_mem_nil, or_false] at hf
            rcases hf with rfl | rfl | rfl
            · exact good_name
            · exact good_part
            · exact good_off
          · cases hf
theorem w8_kind {k : Int} (h : 1 ≤ k ∧ k ≤ 5) : w8 (UInt8.ofNat k.toNat) = k := by
  unfold w8
  rw [UInt8.toNat_ofNat']
  omega
theorem getE_put {e : Ent} (h : rightE e = true) : getE (putE e) = .ok e := by
  obtain ⟨h1, _, h3, _, h5⟩ := right_facts h
  have hk := right_kind h
  unfold putE
  rw [if_pos h]
  show getE1 _ _ = _
  unfold getE1
  simp only [w8_kind hk]
  rw [if_neg (by omega), getAll_put _ _ (good_E _) h1]
  simp only [h5, h3, Option.isNone_none, h, and_self, if_true]
theorem putE_eq {e : Ent} (h : rightE e = true) : putE e = UInt8.ofNat e.kind.toNat :: bytesAll (fldsE e.kind) (valsE e) := by unfold putE; rw [if_pos h]
theorem putE_no {e : Ent} (h : rightE e = false) : putE e = [] := by unfold putE; rw [if_neg (by rw [h]; decide)]
theorem batS_inv {s : ByteArray} {b : Bat} (h : getB s.data.toList = .ok b) : batS b = s := by
  obtain ⟨_, h2⟩ := getB_inv h
  unfold batS
  rw [h2]
theorem made_vals {k : Int} (hk : 1 ≤ k ∧ k ≤ 5) {vs : List Val} (h : okAll (fldsE k) vs = true) (hb : badE k vs = none) : (madeE k vs).kind = k ∧ valsE (madeE k vs) = vs := by
  rcases kind_cases hk with rfl | rfl | rfl | rfl | rfl
  · obtain ⟨x0, r0, rfl, f0, h⟩ := okAll_cons (f := nameF) (fs := [nF 1 1 4, offF]) h
    obtain ⟨x1, r1, rfl, f1, h⟩ := okAll_cons h
    obtain ⟨x2, r2, rfl, f2, h⟩ := okAll_cons h
    obtain rfl := okAll_nil h
    obtain ⟨n0, rfl, _⟩ := fits_text rfl f0
    obtain ⟨n1, rfl, _⟩ := fits_num rfl f1
    obtain ⟨n2, rfl, _⟩ := fits_num rfl f2
    exact ⟨rfl, rfl⟩
  · obtain ⟨x0, r0, rfl, f0, h⟩ := okAll_cons (f := nameF) (fs := []) h
    obtain rfl := okAll_nil h
    obtain ⟨n0, rfl, _⟩ := fits_text rfl f0
    exact ⟨rfl, rfl⟩
  · obtain ⟨x0, r0, rfl, f0, h⟩ := okAll_cons (f := nameF) (fs := [partF, sF 1 600]) h
    obtain ⟨x1, r1, rfl, f1, h⟩ := okAll_cons h
    obtain ⟨x2, r2, rfl, f2, h⟩ := okAll_cons h
    obtain rfl := okAll_nil h
    obtain ⟨n0, rfl, _⟩ := fits_text rfl f0
    obtain ⟨n1, rfl, _⟩ := fits_num rfl f1
    obtain ⟨s2, rfl, _⟩ := fits_text rfl f2
    have hb' : (match getB s2.data.toList with | .ok _ => none | .error c => some c) = none := hb
    cases hg : getB s2.data.toList with
    | error c => rw [hg] at hb'; cases hb'
    | ok b =>
      refine ⟨rfl, ?_⟩
      show [sV n0, nV n1, sV (batS (batOf (getB s2.data.toList)))] = _
      rw [hg]
      show [sV n0, nV n1, sV (batS b)] = _
      rw [batS_inv hg]
  · obtain ⟨x0, r0, rfl, f0, h⟩ := okAll_cons (f := nameF) (fs := [nameF, partF, offF]) h
    obtain ⟨x1, r1, rfl, f1, h⟩ := okAll_cons h
    obtain ⟨x2, r2, rfl, f2, h⟩ := okAll_cons h
    obtain ⟨x3, r3, rfl, f3, h⟩ := okAll_cons h
    obtain rfl := okAll_nil h
    obtain ⟨n0, rfl, _⟩ := fits_text rfl f0
    obtain ⟨n1, rfl, _⟩ := fits_text rfl f1
    obtain ⟨n2, rfl, _⟩ := fits_num rfl f2
    obtain ⟨n3, rfl, _⟩ := fits_num rfl f3
    exact ⟨rfl, rfl⟩
  · obtain ⟨x0, r0, rfl, f0, h⟩ := okAll_cons (f := nameF) (fs := [partF, offF]) h
    obtain ⟨x1, r1, rfl, f1, h⟩ := okAll_cons h
    obtain ⟨x2, r2, rfl, f2, h⟩ := okAll_cons h
    obtain rfl := okAll_nil h
    obtain ⟨n0, rfl, _⟩ := fits_text rfl f0
    obtain ⟨n1, rfl, _⟩ := fits_num rfl f1
    obtain ⟨n2, rfl, _⟩ := fits_num rfl f2
    exact ⟨rfl, rfl⟩
theorem getE_inv {bs : List UInt8} {x : Ent} (h : getE bs = .ok x) : rightE x = true ∧ putE x = bs ∧ ∃ b r, bs = b :: r ∧ w8 b = x.kind := by
  match bs, h with
  | b :: r, h =>
    change getE1 b r = .ok x at h
    unfold getE1 at h
    split at h
    · cases h
    · rename_i hk
      have hk : 1 ≤ w8 b ∧ w8 b ≤ 5 := by omega
      split at h
      · cases h
      · rename_i vs hv
        split at h
        · rename_i hc
          injection h with h
          obtain ⟨a1, a2⟩ := getAll_inv _ _ _ (good_E _) hv
          obtain ⟨m1, m2⟩ := made_vals hk a1 (Option.isNone_iff_eq_none.1 hc.1)
          subst h
          refine ⟨hc.2, ?_, b, r, rfl, m1.symm⟩
          rw [putE_eq hc.2, m2, m1, a2]
          congr 1
          apply w8_inj
          rw [w8_kind hk]
        · cases h
theorem getE_none {b : UInt8} {r : List UInt8} (h : w8 b < 1 ∨ 5 < w8 b) : getE (b :: r) = .error 2 := by
  show getE1 b r = _
  unfold getE1
  rw [if_pos h]
theorem str_le {f : Fld} {fs : List Fld} {s : ByteArray} {vs : List Val} (hf : f.kind = 2) (h : okAll (f :: fs) (sV s :: vs) = true) : f.lo ≤ s.size ∧ (s.size : Int) ≤ f.hi ∧ okAll fs vs = true := by
  obtain ⟨v, r, e, f0, h⟩ := okAll_cons h
  injection e with e1 e2
  subst e1 e2
  obtain ⟨s', e, h1, h2⟩ := fits_text hf f0
  have : s = s' := congrArg Val.s e
  subst this
  exact ⟨h1, h2, h⟩
theorem putE_len (e : Ent) : (putE e).length ≤ 600 := by
  cases h : rightE e
  · rw [putE_no h]; exact Nat.zero_le _
  · obtain ⟨h1, _⟩ := right_facts h
    have hk := right_kind h
    rw [putE_eq h]
    have hb := putB_len e.bat
    have hbs : (batS e.bat).size ≤ 517 := by rw [Lib.size_eq]; exact hb
    rcases kind_cases hk with k | k | k | k | k
    · have e1 : valsE e = [sV e.topic, nV e.parts, nV e.first] := by unfold valsE; rw [k]; rfl
      rw [k, e1] at h1 ⊢
      obtain ⟨_, a2, _⟩ := str_le (f := nameF) (fs := [nF 1 1 4, offF]) rfl h1
      have a2 : (e.topic.size : Int) ≤ 24 := a2
      show (_ :: (txtB e.topic ++ (leB 1 _ ++ (leB 8 _ ++ [])))).length ≤ 600
      simp only [List.length_cons, List.length_append, leB_len, txtB_len, List.length_nil]
      omega
    · have e1 : valsE e = [sV e.topic] := by unfold valsE; rw [k]; rfl
      rw [k, e1] at h1 ⊢
      obtain ⟨_, a2, _⟩ := str_le (f := nameF) (fs := []) rfl h1
      have a2 : (e.topic.size : Int) ≤ 24 := a2
      show (_ :: (txtB e.topic ++ [])).length ≤ 600
      simp only [List.length_cons, List.length_append, txtB_len, List.length_nil]
      omega
    · have e1 : valsE e = [sV e.topic, nV e.part, sV (batS e.bat)] := by unfold valsE; rw [k]; rfl
      rw [k, e1] at h1 ⊢
      obtain ⟨_, a2, _⟩ := str_le (f := nameF) (fs := [partF, sF 1 600]) rfl h1
      have a2 : (e.topic.size : Int) ≤ 24 := a2
      show (_ :: (txtB e.topic ++ (leB 1 _ ++ (txtB (batS e.bat) ++ [])))).length ≤ 600
      simp only [List.length_cons, List.length_append, leB_len, txtB_len, List.length_nil]
      omega
    · have e1 : valsE e = [sV e.group, sV e.topic, nV e.part, nV e.off] := by unfold valsE; rw [k]; rfl
      rw [k, e1] at h1 ⊢
      obtain ⟨_, a2, h1⟩ := str_le (f := nameF) (fs := [nameF, partF, offF]) rfl h1
      have a2 : (e.group.size : Int) ≤ 24 := a2
      obtain ⟨_, a3, h1⟩ := str_le rfl h1
      have a3 : (e.topic.size : Int) ≤ 24 := a3
      show (_ :: (txtB e.group ++ (txtB e.topic ++ (leB 1 _ ++ (leB 8 _ ++ []))))).length ≤ 600
      simp only [List.length_cons, List.length_append, leB_len, txtB_len, List.length_nil]
      omega
    · have e1 : valsE e = [sV e.topic, nV e.part, nV e.off] := by unfold valsE; rw [k]; rfl
      rw [k, e1] at h1 ⊢
      obtain ⟨_, a2, _⟩ := str_le (f := nameF) (fs := [partF, offF]) rfl h1
      have a2 : (e.topic.size : Int) ≤ 24 := a2
      show (_ :: (txtB e.topic ++ (leB 1 _ ++ (leB 8 _ ++ [])))).length ≤ 600
      simp only [List.length_cons, List.length_append, leB_len, txtB_len, List.length_nil]
      omega
end Go.Proofs.YtkdlofgfkfhofaaGreatDoor

/-
  Rows of fields and of values in memory.
-/
namespace Go.Proofs.YtkdlofgfkfhofaaGreatDoor
open Go.RowKit

theorem flat_get {α : Type} (f : α → List Value) (k : Nat) (hf : ∀ x, (f x).length = k) : ∀ (l : List α) (i j : Nat) (x : α) (u : Value), l[i]? = some x → (f x)[j]? = some u → (l.flatMap f)[i * k + j]? = some u
  | [], i, j, x, u, h, _ => by simp at h
  | y :: l, i, j, x, u, h, hu => by
    have h4 := hf y
    have hj : j < k := by
      have := (List.getElem?_eq_some_iff.1 hu).1
      rw [hf] at this
      omega
    rw [List.flatMap_cons]
    cases i with
    | zero =>
      simp at h
      subst h
      rw [Nat.zero_mul, Nat.zero_add, List.getElem?_append_left (by omega)]
      exact hu
    | succ i =>
      have e : (i + 1) * k + j = k + (i * k + j) := by rw [Nat.add_mul]; omega
      rw [e, List.getElem?_append_right (by omega), h4, Nat.add_sub_cancel_left]
      exact flat_get f k hf l i j x u (by simpa using h) hu
theorem flat_len' {α : Type} (f : α → List Value) (k : Nat) (hf : ∀ x, (f x).length = k) (l : List α) : (l.flatMap f).length = l.length * k := by
  induction l with
  | nil => simp
  | cons x l ih => rw [List.flatMap_cons, List.length_append, ih, hf, List.length_cons, Nat.add_mul]; omega
/-- the slice holds rows of k cells -/
structure RdK (w : World) (k : Nat) (A : Option Addr) (n c : Nat) (rows : List (List Value)) : Prop where
  len : rows.length = n
  cap : n ≤ c
  big : c ≤ 9223372036854775807
  cell : ∀ i r, rows[i]? = some r → ∃ g, A = some ⟨g, 0, none⟩ ∧ g < w.heap.size ∧ ∀ j u, r[j]? = some u → w.cell? ⟨g, i * k + j, none⟩ = some u
theorem RdK.ext {w w' : World} {k : Nat} {A : Option Addr} {n c : Nat} {rows : List (List Value)} (h : RdK w k A n c rows) (hb : Below w.heap.size w w') : RdK w' k A n c rows :=
  ⟨h.len, h.cap, h.big, fun i r hr => by
    obtain ⟨g, h1, h2, h3⟩ := h.cell i r hr
    exact ⟨g, h1, Nat.lt_of_lt_of_le h2 hb.size, fun j u hu => (hb.cell (p := ⟨g, i * k + j, none⟩) h2).trans (h3 j u hu)⟩⟩
theorem RdK.nil (w : World) (k : Nat) : RdK w k none 0 0 [] := ⟨rfl, Nat.le_refl _, by omega, fun i r h => by simp at h⟩
theorem RdK.of_bk {w : World} {g k : Nat} {t : TypeId} {cs : Array Value} (hb : Bk w g t cs) {α : Type} (f : α → List Value) (hf : ∀ x, (f x).length = k) (l : List α) (hc : cs = (l.flatMap f).toArray) (n c : Nat) (hn : l.length = n) (hnc : n ≤ c) (hcb : c ≤ 9223372036854775807) :
    RdK w k (some ⟨g, 0, none⟩) n c (l.map f) :=
  ⟨by rw [List.length_map, hn], hnc, hcb, fun i r hr => ⟨g, rfl, hb.lt, fun j u hu => by
    rw [List.getElem?_map] at hr
    obtain ⟨x, hx, rfl⟩ := Option.map_eq_some_iff.1 hr
    rw [hb.cell, hc]
    simp only [List.getElem?_toArray]
    exact flat_get f k hf l i j x u hx hu⟩⟩
theorem RdK.of_own {w : World} {B k : Nat} {t : TypeId} {A : Option Addr} {n c : Nat} {α : Type} (f : α → List Value) (hf : ∀ x, (f x).length = k) (hk : 0 < k) (l : List α) (h : w.ownsRow B t k (.slice A n c) n (l.flatMap f)) : RdK w k A n c (l.map f) := by
  have hlen : l.length = n := by
    have := h.1
    rw [flat_len' f k hf] at this
    exact Nat.eq_of_mul_eq_mul_right hk this
  rcases h.2 with ⟨hv, h0⟩ | ⟨g, cap, cur, hv, hB, hg, hnc, hcm, hsz, htk⟩
  · injection hv with h1 h2 h3
    subst h1 h3
    exact ⟨by rw [List.length_map, hlen], by omega, by omega, fun i m hi => by
      have := (List.getElem?_eq_some_iff.1 hi).1
      rw [List.length_map] at this
      omega⟩
  · injection hv with h1 h2 h3
    subst h1 h3
    refine ⟨by rw [List.length_map, hlen], hnc, by unfold maxLen at hcm; exact hcm, fun i m hi => ⟨g, rfl, ?_, fun j u hu => ?_⟩⟩
    · exact (Array.getElem?_eq_some_iff.1 hg).1
    · rw [List.getElem?_map] at hi
      obtain ⟨x, hx, rfl⟩ := Option.map_eq_some_iff.1 hi
      have hq := flat_get f k hf l i j x u hx hu
      rw [← htk, List.getElem?_take] at hq
      rw [cell_of_row _ _ _ _ _ _ hg, ← hq]
      have hlt : i * k + j < n * k := by
        have := (List.getElem?_eq_some_iff.1 (flat_get f k hf l i j x u hx hu)).1
        rw [flat_len' f k hf, hlen] at this
        exact this
      rw [if_pos hlt, Array.getElem?_toList]

def Fld.cells (f : Fld) : List Value := [.int .i64 f.kind, .int .i64 f.size, .int .i64 f.lo, .int .i64 f.hi, .int .i64 f.most]
def RdF (w : World) (A : Option Addr) (n c : Nat) (l : List Fld) : Prop := RdK w 5 A n c (l.map Fld.cells)
theorem RdF.ext {w w' : World} {A : Option Addr} {n c : Nat} {l : List Fld} (h : RdF w A n c l) (hb : Below w.heap.size w w') : RdF w' A n c l := RdK.ext h hb
/-- a slice of texts -/
def RdT (w : World) (A : Option Addr) (n c : Nat) (l : List ByteArray) : Prop := Rd w w.heap.size A n c (l.map Value.string)
theorem RdT.ext {w w' : World} {A : Option Addr} {n c : Nat} {l : List ByteArray} (h : RdT w A n c l) (hb : Below w.heap.size w w') : RdT w' A n c l := Rd.ext h hb
theorem RdT.nil (w : World) : RdT w none 0 0 [] := Rd.nil w _
theorem RdT.len {w : World} {A : Option Addr} {n c : Nat} {l : List ByteArray} (h : RdT w A n c l) : l.length = n := by have := Rd.len h; rwa [List.length_map] at this
/-- a value with the slice of its texts, as it lies in memory -/
structure MVal where
  v : Val
  A : Option Addr
  n : Nat
  c : Nat
def MVal.cells (m : MVal) : List Value := [.int .i64 m.v.n, .string m.v.s, .slice m.A m.n m.c]
def MVal.ok (w : World) (m : MVal) : Prop := RdT w m.A m.n m.c m.v.l
theorem MVal.ext {w w' : World} {m : MVal} (h : m.ok w) (hb : Below w.heap.size w w') : m.ok w' := RdT.ext h hb
structure RdV (w : World) (A : Option Addr) (n c : Nat) (ms : List MVal) : Prop where
  rows : RdK w 3 A n c (ms.map MVal.cells)
  vals : ∀ m ∈ ms, m.ok w
theorem RdV.ext {w w' : World} {A : Option Addr} {n c : Nat} {l : List MVal} (h : RdV w A n c l) (hb : Below w.heap.size w w') : RdV w' A n c l := ⟨h.rows.ext hb, fun m hm => (h.vals m hm).ext hb⟩
def vsOf (ms : List MVal) : List Val := ms.map MVal.v
def numM (n : Int) : MVal := ⟨nV n, none, 0, 0⟩
def strM (s : ByteArray) : MVal := ⟨sV s, none, 0, 0⟩
theorem numM_ok (w : World) (n : Int) : (numM n).ok w := RdT.nil w
def ldF (v : Value) : Sem Value := Instr.loadAt 193 v
theorem ldF_eq (v : Value) : Instr.loadAt 193 v = ldF v := rfl
theorem size_f : (Tryz.prog.info? 193).map (·.size) = some 5 := by kernel_rfl
theorem ldF_at {w : World} {g o : Nat} {f : Fld} (h : ∀ j u, f.cells[j]? = some u → w.cell? ⟨g, o + j, none⟩ = some u) : (ldF (.pointer (some ⟨g, o, none⟩))).run Tryz.prog w = .ok (.agg #[.int .i64 f.kind, .int .i64 f.size, .int .i64 f.lo, .int .i64 f.hi, .int .i64 f.most]) w := by
  exact run_loadAt_mid w g o 193 f.cells _ h Tryz.underlying193 rfl size_f
def ldV (v : Value) : Sem Value := Instr.loadAt 198 v
theorem ldV_eq (v : Value) : Instr.loadAt 198 v = ldV v := rfl
theorem size_v : (Tryz.prog.info? 198).map (·.size) = some 3 := by kernel_rfl
theorem ldV_at {w : World} {g o : Nat} {m : MVal} (h : ∀ j u, m.cells[j]? = some u → w.cell? ⟨g, o + j, none⟩ = some u) : (ldV (.pointer (some ⟨g, o, none⟩))).run Tryz.prog w = .ok (.agg #[.int .i64 m.v.n, .string m.v.s, .slice m.A m.n m.c]) w := by
  exact run_loadAt_mid w g o 198 m.cells _ h Tryz.underlying198 rfl size_v
end Go.Proofs.YtkdlofgfkfhofaaGreatDoor

/-
  gram: the cursor's num.
-/
namespace Go.Proofs.YtkdlofgfkfhofaaGreatDoor
open Go.RowKit
attribute [local go_sem] w8_nn w8_256 wrap_i64_w8 wrap64_w8 pastA_zero pastA_some
attribute [local go_sem ↓] sliced_past

/-- the cursor: bytes, where, what is wrong -/
def Cur (w : World) (g : Nat) (A : Option Addr) (n c : Nat) (p : Nat) (bad : Int) : Prop := Bk w g 237 #[.slice A n c, .int .i64 p, .int .i64 bad]
/-- what num hands back, where it stands then, what is wrong -/
def numS (size : Nat) (lo hi : Int) (l : List UInt8) (p : Nat) (bad : Int) : Int × Nat × Int :=
  if bad = 0 then (match getN size lo hi (l.drop p) with | .ok (m, _) => (m, p + size, 0) | .error k => (0, p, k)) else (0, p, bad)
theorem or_u64 (a k : Nat) (x : UInt8) (hk : k ≤ 7) (ha : a < 2 ^ (8 * k)) : bits .or .u64 (a : Int) (IntKind.u64.wrap (IntKind.u64.wrap (w8 x) * 2 ^ (8 * k))) = ((a + 2 ^ (8 * k) * x.toNat : Nat) : Int) := by
  have hp := pow8_le k hk
  have hx := x.toNat_lt
  have hmul : 2 ^ (8 * k) * x.toNat ≤ 72057594037927936 * 255 := Nat.mul_le_mul hp (by omega)
  have hw := w8_lt x
  rw [wrap_u64_in (w8 x) hw.1 (by omega)]
  have e : w8 x * 2 ^ (8 * k) = ((2 ^ (8 * k) * x.toNat : Nat) : Int) := by
    unfold w8
    rw [Int.natCast_mul, Int.mul_comm]
    simp
  rw [e, wrap_u64_in _ (by omega) (by omega)]
  show IntKind.u64.wrap ((BitVec.ofInt 64 (a : Int) ||| BitVec.ofInt 64 ((2 ^ (8 * k) * x.toNat : Nat) : Int)).toNat : Int) = _
  rw [BitVec.ofInt_natCast, BitVec.ofInt_natCast, BitVec.toNat_or, BitVec.toNat_ofNat, BitVec.toNat_ofNat, Nat.mod_eq_of_lt (show a < 2 ^ 64 by omega), Nat.mod_eq_of_lt (show 2 ^ (8 * k) * x.toNat < 2 ^ 64 by omega),
    Nat.or_comm, nat_join (8 * k) _ _ (Nat.mul_mod_right _ _) ha, Nat.add_comm, wrap_u64_in _ (by omega) (by omega)]
set_option maxRecDepth 100000 in
set_option maxHeartbeats 1000000 in
theorem num_any (g : Nat) (A : Option Addr) (n c : Nat) (l : List UInt8) (p : Nat) (bad : Int) (size : Nat) (lo hi : Int) (w : World) (hr : RdB w A n c l) (hc : Cur w g A n c p bad) (hp : p ≤ n) (hs : size ≤ 8) (hlo : 0 ≤ lo) (hlh : lo ≤ hi) (hhi : hi ≤ 9223372036854775807) :
    Calls Tryz.prog 185 #[.pointer (some ⟨g, 0, none⟩), .int .i64 size, .int .i64 lo, .int .i64 hi] w fun e w' => e = .returned (.int .i64 (numS size lo hi l p bad).1) ∧ Cur w' g A n c (numS size lo hi l p bad).2.1 (numS size lo hi l p bad).2.2 ∧ w.grownBy w' (some g) := by
  have c0 : w.cell? ⟨g, 0, none⟩ = some (.slice A n c) := hc.cell 0
  have c1 : w.cell? ⟨g, 1, none⟩ = some (.int .i64 p) := hc.cell 1
  have f1 := hc.thaw 1
  have f2 := hc.thaw 2
  have gr := fun (q : Addr) (hq : q.block = g) (v : Value) => (hq ▸ grown_set w q v : w.grownBy (w.setCell q v) (some g))
  have GR := Lib.hid gr
  clear gr
  have HC := Lib.hid hc
  by_cases hb : bad = 0
  · subst hb
    have c2 : w.cell? ⟨g, 2, none⟩ = some (.int .i64 0) := hc.cell 2
    have hlen := hr.len
    have hcap := hr.cap
    have hbig := hr.big
    clear hc
    by_cases hsh : n - p < size
    · have e : numS size lo hi l p 0 = (0, p, 3) := by
        unfold numS
        rw [if_pos rfl, getN_cut (by rw [List.length_drop]; omega)]
      rw [e]
      clear e
      have hi1 : (n : Int) - p < size := by omega
      have hw1 : IntKind.i64.wrap ((n : Int) - p) = (n : Int) - p := by rw [IntKind.wrap_i64]; omega
      go_enter Tryz.func185, Tryz.ntmps185
      go_wp2
      go_quiet (fail)
      go_wp2
      go_ret
      exact ⟨rfl, (HC.out.drawn _).put 2 _, (grown_of_below (below_drawn (Below.refl _ _) _)).but _ |>.trans (grown_set _ ⟨g, 2, none⟩ _)⟩
    · have hL : (l.drop p).length = n - p := by rw [List.length_drop, hlen]
      have hR := (hr.past' p hp).upto size (by omega)
      have HR := Lib.hid (show RdB w (pastA A p c 1) (p + size - p) (c - p) ((l.drop p).take size) by rw [show p + size - p = size by omega]; exact hR)
      clear hR
      have HRl := Lib.hid (show ((l.drop p).take size).length = size by rw [List.length_take]; omega)
      have hi1 : (size : Int) ≤ (n : Int) - p := by omega
      have hw1 : IntKind.i64.wrap ((n : Int) - p) = (n : Int) - p := by rw [IntKind.wrap_i64]; omega
      have hw2 : IntKind.i64.wrap ((p : Int) + size) = ((p + size : Nat) : Int) := by rw [IntKind.wrap_i64]; omega
      have hpc : (p : Int) ≤ ((p + size : Nat) : Int) := by omega
      have hpc2 : ((p + size : Nat) : Int) ≤ (c : Int) := by omega
      have hpc3 : p ≤ p + size := by omega
      have hpc4 : p + size ≤ c := by omega
      have hsz : p + size - p = size := by omega
      go_enter Tryz.func185, Tryz.ntmps185
      go_wp2
      go_quiet (fail)
      rename Nat => nq1
      go_wp2
      go_quiet (fail)
      clear hw1 hw2 hpc hpc2 hpc3 hpc4 hi1
      go_wp2
      go_loop [9, 10, 11, 48] (fun s _ _ i => ∃ k : Nat, k ≤ size ∧ i = .int .i64 k ∧ s = .int .u64 (leN (((l.drop p).take size).take k))) (fun _ _ _ i => size - (intOf i).toNat)
      case atStart => exact ⟨0, Nat.zero_le _, rfl, rfl⟩
      case round =>
        obtain ⟨k, hk, rfl, rfl⟩ := hrel
        by_cases hlt : k < size
        · have hi : (k : Int) < size := by omega
          have hi2 : (k : Int) < ((p + size - p : Nat) : Int) := by omega
          obtain ⟨ad, x, hA', hx, hxk, hc⟩ := HR.out.get (show k < p + size - p by omega)
          have hk7 : k ≤ 7 := by omega
          have hlt8 := leN_lt (((l.drop p).take size).take k)
          rw [List.length_take, Nat.min_eq_left (by have := HRl.out; omega), pow256] at hlt8
          have hst := or_u64 (leN (((l.drop p).take size).take k)) k x hk7 hlt8
          have Hl8 := Lib.hid (show leN (((l.drop p).take size).take (k + 1)) = leN (((l.drop p).take size).take k) + 2 ^ (8 * k) * x.toNat by rw [hx.out, leN_snoc, List.length_take, Nat.min_eq_left (by have := HRl.out; omega), pow256])
          clear hlt8
          go_wp2
          go_round
          case rel => exact ⟨_, _, _, _, ⟨k + 1, by omega, rfl, rfl⟩, by rw [Hl8.out]; simp, rfl, rfl, by go_num⟩
          case measure => simp [intOf]; omega
        · obtain rfl : k = size := by omega
          have ht : ((l.drop p).take k).take k = (l.drop p).take k := by rw [List.take_take, Nat.min_self]
          rw [ht]
          have hlt8 := leN_lt ((l.drop p).take k)
          rw [HRl.out, pow256] at hlt8
          have hp64 : 2 ^ (8 * k) ≤ 18446744073709551616 := Nat.pow_le_pow_right (show 0 < 2 by omega) (show 8 * k ≤ 64 by omega)
          have hnum : Hid (∀ m : Nat, leN ((l.drop p).take k) = m → numS k lo hi l p 0 = if lo ≤ (m : Int) ∧ (m : Int) ≤ hi then ((m : Int), p + k, 0) else (0, p, 2)) := by
            rintro m rfl
            unfold numS getN
            rw [if_pos rfl, if_neg (by omega)]
            by_cases h : lo ≤ (leN ((l.drop p).take k) : Int) ∧ (leN ((l.drop p).take k) : Int) ≤ hi
            · rw [if_pos h, if_pos h]
            · rw [if_neg h, if_neg h]
          obtain ⟨m, hm⟩ : ∃ m, leN ((l.drop p).take k) = m := ⟨_, rfl⟩
          have hN := Lib.hid (hnum.out m hm)
          rw [hm] at hlt8 ⊢
          have hm64 : m < 18446744073709551616 := by omega
          have hwl := wrap_u64_in lo hlo (by omega)
          have hwh := wrap_u64_in hi (by omega) (by omega)
          clear hnum hm hlt8 hp64 ht
          by_cases h1 : (m : Int) < lo
          · go_wp2
            rw [hN.out, if_neg (by omega)]
            go_ret
            exact ⟨rfl, (HC.out.drawn _).put 2 _, (grown_of_below (below_drawn (Below.refl _ _) _)).but _ |>.trans (grown_set _ ⟨g, 2, none⟩ _)⟩
          · by_cases h2 : hi < (m : Int)
            · go_wp2
              rw [hN.out, if_neg (by omega)]
              go_ret
              exact ⟨rfl, (HC.out.drawn _).put 2 _, (grown_of_below (below_drawn (Below.refl _ _) _)).but _ |>.trans (grown_set _ ⟨g, 2, none⟩ _)⟩
            · have hw3 : IntKind.i64.wrap (m : Int) = (m : Int) := by rw [IntKind.wrap_i64]; omega
              have hw4 : IntKind.i64.wrap ((p : Int) + k) = ((p + k : Nat) : Int) := by rw [IntKind.wrap_i64]; omega
              go_wp2
              rw [hN.out, if_pos (by omega)]
              go_ret
              exact ⟨rfl, (HC.out.drawn _).put 1 _, (grown_of_below (below_drawn (Below.refl _ _) _)).but _ |>.trans (grown_set _ ⟨g, 1, none⟩ _)⟩
  · have c2 : w.cell? ⟨g, 2, none⟩ = some (.int .i64 bad) := hc.cell 2
    have hb' : (bad != 0) = true := by rw [bne_iff_ne]; exact hb
    have e : numS size lo hi l p bad = (0, p, bad) := by unfold numS; rw [if_neg hb]
    rw [e]
    clear e hc
    go_enter Tryz.func185, Tryz.ntmps185
    go_wp2
    go_ret
    exact ⟨rfl, HC.out, (grown_of_below (Below.refl _ _)).but _⟩
end Go.Proofs.YtkdlofgfkfhofaaGreatDoor
