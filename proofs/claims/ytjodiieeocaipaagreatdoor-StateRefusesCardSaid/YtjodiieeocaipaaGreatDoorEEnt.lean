/-
  Batches and entries, as bytes and back: plain lists.
-/
import Derived.Test.YtjodiieeocaipaaGreatDoorESpec
import Derived.Test.YtjodiieeocaipaaGreatDoorGrpName
namespace Go.Proofs.YtjodiieeocaipaaGreatDoor
open Go.RowKit

structure Bat where
  time : Int
  prod : Int
  seq : Int
  vals : List ByteArray
def noB : Bat := ⟨0, 0, 0, []⟩
def nul : ByteArray := ⟨#[]⟩
def nV (n : Int) : Val := ⟨n, nul, []⟩
def sV (s : ByteArray) : Val := ⟨0, s, []⟩
def lV (l : List ByteArray) : Val := ⟨0, nul, l⟩
def nF (size lo hi : Int) : Fld := ⟨1, size, lo, hi, 0⟩
def sF (lo hi : Int) : Fld := ⟨2, 0, lo, hi, 0⟩
def batF : List Fld := [nF 8 0 1125899906842624, nF 4 0 1048576, nF 8 0 1099511627776, ⟨3, 0, 1, 8, 60⟩]
def batV (b : Bat) : List Val := [nV b.time, nV b.prod, nV b.seq, lV b.vals]
def rightB (b : Bat) : Bool := okAll batF (batV b) && (decide (0 < b.prod) || decide (b.seq = 0))
def putB (b : Bat) : List UInt8 := if rightB b then bytesAll batF (batV b) else []
def madeB : List Val → Bat
  | [v0, v1, v2, v3] => ⟨v0.n, v1.n, v2.n, v3.l⟩
  | _ => noB
def getB (bs : List UInt8) : Except Int Bat :=
  match getAll batF bs with
  | .error k => .error k
  | .ok vs => if rightB (madeB vs) then .ok (madeB vs) else .error 2

theorem fits_num {f : Fld} (hf : f.kind = 1) {v : Val} (h : fitsV f v = true) : ∃ n, v = nV n ∧ f.lo ≤ n ∧ n ≤ f.hi := by
  obtain ⟨n, s, l⟩ := v
  unfold fitsV inF at h
  rw [if_pos hf] at h
  simp only [Bool.and_eq_true, decide_eq_true_iff, List.isEmpty_iff] at h
  obtain ⟨⟨⟨h1, h2⟩, h3⟩, h4⟩ := h
  exact ⟨n, by rw [zero_str h3, h4]; rfl, h1, h2⟩
theorem fits_text {f : Fld} (hf : f.kind = 2) {v : Val} (h : fitsV f v = true) : ∃ s, v = sV s ∧ f.lo ≤ s.size ∧ (s.size : Int) ≤ f.hi := by
  obtain ⟨n, s, l⟩ := v
  unfold fitsV inF at h
  rw [if_neg (by omega), if_pos hf] at h
  simp only [Bool.and_eq_true, decide_eq_true_iff, List.isEmpty_iff] at h
  obtain ⟨⟨⟨h1, h2⟩, h3⟩, h4⟩ := h
  exact ⟨s, by rw [h3, h4]; rfl, h1, h2⟩
theorem fits_texts {f : Fld} (hf : f.kind = 3) {v : Val} (h : fitsV f v = true) : ∃ l, v = lV l ∧ f.lo ≤ l.length ∧ (l.length : Int) ≤ f.hi ∧ ∀ s ∈ l, (s.size : Int) ≤ f.most := by
  obtain ⟨n, s, l⟩ := v
  unfold fitsV inF at h
  rw [if_neg (by omega), if_neg (by omega)] at h
  simp only [Bool.and_eq_true, decide_eq_true_iff, List.all_eq_true] at h
  obtain ⟨⟨⟨⟨h1, h2⟩, h5⟩, h3⟩, h4⟩ := h
  exact ⟨l, by rw [h3, zero_str h4]; rfl, h1, h2, h5⟩
theorem good_num {size lo hi : Int} (h0 : 0 ≤ lo) (h1 : 0 < size) (h2 : size ≤ 8) (h3 : hi < (256 : Int) ^ size.toNat) : GoodF (nF size lo hi) := ⟨.inl ⟨rfl, h0, h1, h2, h3⟩⟩
theorem good_text {lo hi : Int} (h0 : 0 ≤ lo) (h1 : hi ≤ 65535) : GoodF (sF lo hi) := ⟨.inr (.inl ⟨rfl, h0, h1⟩)⟩
theorem good_bat : ∀ f ∈ batF, GoodF f := by
  intro f hf
  unfold batF at hf
  simp only [List.mem_cons, List.not_mem_nil, or_false] at hf
  rcases hf with rfl | rfl | rfl | rfl
  · exact good_num (by decide) (by decide) (by decide) (by decide)
  · exact good_num (by decide) (by decide) (by decide) (by decide)
  · exact good_num (by decide) (by decide) (by decide) (by decide)
  · exact ⟨.inr (.inr ⟨rfl, by decide, by decide, by decide⟩)⟩
theorem bat_shape {vs : List Val} (h : okAll batF vs = true) : ∃ b, vs = batV b ∧ madeB vs = b := by
  unfold batF at h
  obtain ⟨v0, r0, rfl, f0, h⟩ := okAll_cons h
  obtain ⟨v1, r1, rfl, f1, h⟩ := okAll_cons h
  obtain ⟨v2, r2, rfl, f2, h⟩ := okAll_cons h
  obtain ⟨v3, r3, rfl, f3, h⟩ := okAll_cons h
  obtain rfl := okAll_nil h
  obtain ⟨n0, rfl, _⟩ := fits_num rfl f0
  obtain ⟨n1, rfl, _⟩ := fits_num rfl f1
  obtain ⟨n2, rfl, _⟩ := fits_num rfl f2
  obtain ⟨l3, rfl, _⟩ := fits_texts rfl f3
  exact ⟨⟨n0, n1, n2, l3⟩, rfl, rfl⟩
theorem getB_put {b : Bat} (h : rightB b = true) : getB (putB b) = .ok b := by
  have h1 := h
  unfold rightB at h1
  rw [Bool.and_eq_true] at h1
  unfold getB putB
  rw [if_pos h, getAll_put batF _ good_bat h1.1]
  show (if rightB b = true then Except.ok b else Except.error 2) = _
  rw [if_pos h]
theorem getB_inv {bs : List UInt8} {b : Bat} (h : getB bs = .ok b) : rightB b = true ∧ putB b = bs := by
  unfold getB at h
  split at h
  · cases h
  · rename_i vs hv
    obtain ⟨h1, h2⟩ := getAll_inv batF bs vs good_bat hv
    obtain ⟨b', rfl, e⟩ := bat_shape h1
    rw [e] at h
    split at h
    · rename_i hr
      injection h with h
      subst h
      refine ⟨hr, ?_⟩
      unfold putB
      rw [if_pos hr]
      exact h2
    · cases h
theorem flat_len_le (l : List ByteArray) (h : ∀ s ∈ l, (s.size : Int) ≤ 60) : (l.flatMap txtB).length ≤ 62 * l.length := by
  induction l with
  | nil => simp
  | cons s l ih =>
    have h1 := ih (fun x hx => h x (List.mem_cons_of_mem _ hx))
    have h2 := h s List.mem_cons_self
    rw [List.flatMap_cons, List.length_append, List.length_cons, txtB_len]
    omega
theorem putB_len (b : Bat) : (putB b).length ≤ 517 := by
  unfold putB
  split
  · rename_i h
    unfold rightB at h
    rw [Bool.and_eq_true] at h
    have h := h.1
    unfold batF batV at h
    obtain ⟨v0, r0, e, f0, h⟩ := okAll_cons h
    obtain ⟨v1, r1, e1, f1, h⟩ := okAll_cons h
    obtain ⟨v2, r2, e2, f2, h⟩ := okAll_cons h
    obtain ⟨v3, r3, e3, f3, h⟩ := okAll_cons h
    injection e with _ e
    subst e
    injection e1 with _ e1
    subst e1
    injection e2 with _ e2
    subst e2
    injection e3 with e3 _
    subst e3
    obtain ⟨l, e, h1, h2, h3⟩ := fits_texts rfl f3
    have el : b.vals = l := congrArg Val.l e
    have := flat_len_le l h3
    have h2 : (l.length : Int) ≤ 8 := h2
    show (leB 8 _ ++ (leB 4 _ ++ (leB 8 _ ++ ((leB 1 _ ++ b.vals.flatMap txtB) ++ [])))).length ≤ 517
    simp only [List.length_append, leB_len, List.length_nil, el]
    omega
  · exact Nat.zero_le _

/-- an entry -/
structure Ent where
  kind : Int
  topic : ByteArray
  group : ByteArray
  part : Int
  parts : Int
  first : Int
  off : Int
  bat : Bat
def noE : Ent := ⟨0, nul, nul, 0, 0, 0, 0, noB⟩
def nameF : Fld := sF 1 24
def partF : Fld := nF 1 0 3
def offF : Fld := nF 8 0 9223372036854775807
def fldsE (k : Int) : List Fld :=
  if k = 1 then [nameF, nF 1 1 4, offF] else if k = 2 then [nameF] else if k = 3 then [nameF, partF, sF 1 600] else if k = 4 then [nameF, nameF, partF, offF] else if k = 5 then [nameF, partF, offF] else []
def batS (b : Bat) : ByteArray := ⟨(putB b).toArray⟩
def valsE (e : Ent) : List Val :=
  if e.kind = 1 then [sV e.topic, nV e.parts, nV e.first] else if e.kind = 2 then [sV e.topic] else if e.kind = 3 then [sV e.topic, nV e.part, sV (batS e.bat)] else if e.kind = 4 then [sV e.group, sV e.topic, nV e.part, nV e.off]
  else if e.kind = 5 then [sV e.topic, nV e.part, nV e.off] else []
def v0 (vs : List Val) (k : Nat) : Val := vs.getD k ⟨0, nul, []⟩
def batOf (x : Except Int Bat) : Bat := match x with | .ok b => b | .error _ => noB
def madeE (k : Int) (vs : List Val) : Ent :=
  if k = 1 then ⟨k, (v0 vs 0).s, nul, 0, (v0 vs 1).n, (v0 vs 2).n, 0, noB⟩ else if k = 2 then ⟨k, (v0 vs 0).s, nul, 0, 0, 0, 0, noB⟩ else if k = 3 then ⟨k, (v0 vs 0).s, nul, (v0 vs 1).n, 0, 0, 0, batOf (getB (v0 vs 2).s.data.toList)⟩
  else if k = 4 then ⟨k, (v0 vs 1).s, (v0 vs 0).s, (v0 vs 2).n, 0, 0, (v0 vs 3).n, noB⟩ else if k = 5 then ⟨k, (v0 vs 0).s, nul, (v0 vs 1).n, 0, 0, (v0 vs 2).n, noB⟩ else ⟨k, nul, nul, 0, 0, 0, 0, noB⟩
/-- has what was made of values an error beside it -/
def badE (k : Int) (vs : List Val) : Option Int := if k = 3 then (match getB (v0 vs 2).s.data.toList with | .ok _ => none | .error c => some c) else none
def sameB (a b : Bat) : Bool := decide (a.time = b.time) && decide (a.prod = b.prod) && decide (a.seq = b.seq) && decide (a.vals = b.vals)
def sameR (a b : Ent) : Bool := decide (a.kind = b.kind) && decide (a.topic = b.topic) && decide (a.group = b.group) && decide (a.part = b.part) && decide (a.parts = b.parts) && decide (a.first = b.first) && decide (a.off = b.off)
def namesE (e : Ent) : Bool := nameOk e.topic && (decide (e.kind ≠ 4) || nameOk e.group)
def rightE (e : Ent) : Bool :=
  okAll (fldsE e.kind) (valsE e) && (!(valsE e).isEmpty && ((badE e.kind (valsE e)).isNone && (namesE e && (sameR (madeE e.kind (valsE e)) e && sameB (madeE e.kind (valsE e)).bat e.bat))))
def putE (e : Ent) : List UInt8 := if rightE e then UInt8.ofNat e.kind.toNat :: bytesAll (fldsE e.kind) (valsE e) else []
def getE1 (b : UInt8) (r : List UInt8) : Except Int Ent :=
  if w8 b < 1 ∨ 5 < w8 b then .error 2
  else match getAll (fldsE (w8 b)) r with
    | .error c => .error c
    | .ok vs => if (badE (w8 b) vs).isNone = true ∧ rightE (madeE (w8 b) vs) = true then .ok (madeE (w8 b) vs) else .error 2
def getE : List UInt8 → Except Int Ent
  | [] => .error 3
  | b :: r => getE1 b r

theorem sameB_iff {a b : Bat} : sameB a b = true ↔ a = b := by
  obtain ⟨a1, a2, a3, a4⟩ := a
  obtain ⟨b1, b2, b3, b4⟩ := b
  simp [sameB, and_assoc]
theorem same_iff {a b : Ent} : (sameR a b = true ∧ sameB a.bat b.bat = true) ↔ a = b := by
  rw [sameB_iff]
  obtain ⟨a1, a2, a3, a4, a5, a6, a7, a8⟩ := a
  obtain ⟨b1, b2, b3, b4, b5, b6, b7, b8⟩ := b
  simp [sameR, and_assoc]
theorem right_facts {e : Ent} (h : rightE e = true) : okAll (fldsE e.kind) (valsE e) = true ∧ valsE e ≠ [] ∧ badE e.kind (valsE e) = none ∧ namesE e = true ∧ madeE e.kind (valsE e) = e := by
  unfold rightE at h
  simp only [Bool.and_eq_true, Bool.not_eq_true', List.isEmpty_eq_false_iff, Option.isNone_iff_eq_none] at h
  obtain ⟨h1, h2, h3, h4, h5, h6⟩ := h
  exact ⟨h1, h2, h3, h4, same_iff.1 ⟨h5, h6⟩⟩
theorem right_kind {e : Ent} (h : rightE e = true) : 1 ≤ e.kind ∧ e.kind ≤ 5 := by
  have h2 := (right_facts h).2.1
  by_cases hk : 1 ≤ e.kind ∧ e.kind ≤ 5
  · exact hk
  · refine absurd ?_ h2
    unfold valsE
    rw [if_neg (by omega), if_neg (by omega), if_neg (by omega), if_neg (by omega), if_neg (by omega)]
theorem kind_cases {k : Int} (h : 1 ≤ k ∧ k ≤ 5) : k = 1 ∨ k = 2 ∨ k = 3 ∨ k = 4 ∨ k = 5 := by omega
theorem good_name : GoodF nameF := good_text (by decide) (by decide)
theorem good_part : GoodF partF := good_num (by decide) (by decide) (by decide) (by decide)
theorem good_off : GoodF offF := good_num (by decide) (by decide) (by decide) (by decide)
theorem good_parts : GoodF (nF 1 1 4) := good_num (by decide) (by decide) (by decide) (by decide)
theorem good_bt : GoodF (sF 1 600) := good_text (by decide) (by decide)
theorem good_E (k : Int) : ∀ f ∈ fldsE k, GoodF f := by
  intro f hf
  unfold fldsE at hf
  split at hf
  · simp only [List.mem_cons, List.not_mem_nil, or_false] at hf
    rcases hf with rfl | rfl | rfl
    · exact good_name
    · exact good_parts
    · exact good_off
  · split at hf
    · simp only [List.mem_cons, List.not_mem_nil, or_false] at hf
      subst hf
      exact good_name
    · split at hf
      · simp only [List.mem_cons, List.not_mem_nil, or_false] at hf
        rcases hf with rfl | rfl | rfl
        · exact good_name
        · exact good_part
        · exact good_bt
      · split at hf
        · simp only [List.mem_cons, List.not_mem_nil, or_false] at hf
          rcases hf with rfl | rfl | rfl | rfl
          · exact good_name
          · exact good_name
          · exact good_part
          · exact good_off
        · split at hf
          · simp only [List.mem_cons, List.not_mem_nil, or_false] at hf
            rcases hf with rfl | rfl | rfl
            · exact good_name
            · exact good_part
            · exact good_off
          · cases hf
theorem w8_kind {k : Int} (h : 1 ≤ k ∧ k ≤ 5) : w8 (UInt8.ofNat k.toNat) = k := by
  unfold w8
  rw [UInt8.toNat_ofNat']
  omega
theorem getE_put {e : Ent} (h : rightE e = true) : getE (putE e) = .ok e := by
  obtain ⟨h1, _, h3, _, h5⟩ := right_facts h
  have hk := right_kind h
  unfold putE
  rw [if_pos h]
  show getE1 _ _ = _
  unfold getE1
  simp only [w8_kind hk]
  rw [if_neg (by omega), getAll_put _ _ (good_E _) h1]
  simp only [h5, h3, Option.isNone_none, h, and_self, if_true]
theorem putE_eq {e : Ent} (h : rightE e = true) : putE e = UInt8.ofNat e.kind.toNat :: bytesAll (fldsE e.kind) (valsE e) := by unfold putE; rw [if_pos h]
theorem putE_no {e : Ent} (h : rightE e = false) : putE e = [] := by unfold putE; rw [if_neg (by rw [h]; decide)]
theorem getE_cut {e : Ent} (h : rightE e = true) {k : Nat} (hk : k < (putE e).length) : getE ((putE e).take k) = .error 3 := by
  obtain ⟨h1, _⟩ := right_facts h
  have hkd := right_kind h
  rw [putE_eq h] at hk ⊢
  cases k with
  | zero => rfl
  | succ k =>
    rw [List.take_succ_cons]
    show getE1 _ _ = _
    unfold getE1
    simp only [w8_kind hkd]
    rw [if_neg (by omega), getAll_cut _ _ k (good_E _) h1 (by simpa using hk)]
theorem getE_more {e : Ent} (h : rightE e = true) (x : UInt8) : getE (putE e ++ [x]) = .error 4 := by
  obtain ⟨h1, _⟩ := right_facts h
  have hkd := right_kind h
  rw [putE_eq h, List.cons_append]
  show getE1 _ _ = _
  unfold getE1
  simp only [w8_kind hkd]
  rw [if_neg (by omega), getAll_more _ _ x (good_E _) h1]
theorem batS_inv {s : ByteArray} {b : Bat} (h : getB s.data.toList = .ok b) : batS b = s := by
  obtain ⟨_, h2⟩ := getB_inv h
  unfold batS
  rw [h2]
theorem made_vals {k : Int} (hk : 1 ≤ k ∧ k ≤ 5) {vs : List Val} (h : okAll (fldsE k) vs = true) (hb : badE k vs = none) : (madeE k vs).kind = k ∧ valsE (madeE k vs) = vs := by
  rcases kind_cases hk with rfl | rfl | rfl | rfl | rfl
  · obtain ⟨x0, r0, rfl, f0, h⟩ := okAll_cons (f := nameF) (fs := [nF 1 1 4, offF]) h
    obtain ⟨x1, r1, rfl, f1, h⟩ := okAll_cons h
    obtain ⟨x2, r2, rfl, f2, h⟩ := okAll_cons h
    obtain rfl := okAll_nil h
    obtain ⟨n0, rfl, _⟩ := fits_text rfl f0
    obtain ⟨n1, rfl, _⟩ := fits_num rfl f1
    obtain ⟨n2, rfl, _⟩ := fits_num rfl f2
    exact ⟨rfl, rfl⟩
  · obtain ⟨x0, r0, rfl, f0, h⟩ := okAll_cons (f := nameF) (fs := []) h
    obtain rfl := okAll_nil h
    obtain ⟨n0, rfl, _⟩ := fits_text rfl f0
    exact ⟨rfl, rfl⟩
  · obtain ⟨x0, r0, rfl, f0, h⟩ := okAll_cons (f := nameF) (fs := [partF, sF 1 600]) h
    obtain ⟨x1, r1, rfl, f1, h⟩ := okAll_cons h
    obtain ⟨x2, r2, rfl, f2, h⟩ := okAll_cons h
    obtain rfl := okAll_nil h
    obtain ⟨n0, rfl, _⟩ := fits_text rfl f0
    obtain ⟨n1, rfl, _⟩ := fits_num rfl f1
    obtain ⟨s2, rfl, _⟩ := fits_text rfl f2
    have hb' : (match getB s2.data.toList with | .ok _ => none | .error c => some c) = none := hb
    cases hg : getB s2.data.toList with
    | error c => rw [hg] at hb'; cases hb'
    | ok b =>
      refine ⟨rfl, ?_⟩
      show [sV n0, nV n1, sV (batS (batOf (getB s2.data.toList)))] = _
      rw [hg]
      show [sV n0, nV n1, sV (batS b)] = _
      rw [batS_inv hg]
  · obtain ⟨x0, r0, rfl, f0, h⟩ := okAll_cons (f := nameF) (fs := [nameF, partF, offF]) h
    obtain ⟨x1, r1, rfl, f1, h⟩ := okAll_cons h
    obtain ⟨x2, r2, rfl, f2, h⟩ := okAll_cons h
    obtain ⟨x3, r3, rfl, f3, h⟩ := okAll_cons h
    obtain rfl := okAll_nil h
    obtain ⟨n0, rfl, _⟩ := fits_text rfl f0
    obtain ⟨n1, rfl, _⟩ := fits_text rfl f1
    obtain ⟨n2, rfl, _⟩ := fits_num rfl f2
    obtain ⟨n3, rfl, _⟩ := fits_num rfl f3
    exact ⟨rfl, rfl⟩
  · obtain ⟨x0, r0, rfl, f0, h⟩ := okAll_cons (f := nameF) (fs := [partF, offF]) h
    obtain ⟨x1, r1, rfl, f1, h⟩ := okAll_cons h
    obtain ⟨x2, r2, rfl, f2, h⟩ := okAll_cons h
    obtain rfl := okAll_nil h
    obtain ⟨n0, rfl, _⟩ := fits_text rfl f0
    obtain ⟨n1, rfl, _⟩ := fits_num rfl f1
    obtain ⟨n2, rfl, _⟩ := fits_num rfl f2
    exact ⟨rfl, rfl⟩
theorem getE_inv {bs : List UInt8} {x : Ent} (h : getE bs = .ok x) : rightE x = true ∧ putE x = bs ∧ ∃ b r, bs = b :: r ∧ w8 b = x.kind := by
  match bs, h with
  | b :: r, h =>
    change getE1 b r = .ok x at h
    unfold getE1 at h
    split at h
    · cases h
    · rename_i hk
      have hk : 1 ≤ w8 b ∧ w8 b ≤ 5 := by omega
      split at h
      · cases h
      · rename_i vs hv
        split at h
        · rename_i hc
          injection h with h
          obtain ⟨a1, a2⟩ := getAll_inv _ _ _ (good_E _) hv
          obtain ⟨m1, m2⟩ := made_vals hk a1 (Option.isNone_iff_eq_none.1 hc.1)
          subst h
          refine ⟨hc.2, ?_, b, r, rfl, m1.symm⟩
          rw [putE_eq hc.2, m2, m1, a2]
          congr 1
          apply w8_inj
          rw [w8_kind hk]
        · cases h
theorem getE_none {b : UInt8} {r : List UInt8} (h : w8 b < 1 ∨ 5 < w8 b) : getE (b :: r) = .error 2 := by
  show getE1 b r = _
  unfold getE1
  rw [if_pos h]
theorem str_le {f : Fld} {fs : List Fld} {s : ByteArray} {vs : List Val} (hf : f.kind = 2) (h : okAll (f :: fs) (sV s :: vs) = true) : f.lo ≤ s.size ∧ (s.size : Int) ≤ f.hi ∧ okAll fs vs = true := by
  obtain ⟨v, r, e, f0, h⟩ := okAll_cons h
  injection e with e1 e2
  subst e1 e2
  obtain ⟨s', e, h1, h2⟩ := fits_text hf f0
  have : s = s' := congrArg Val.s e
  subst this
  exact ⟨h1, h2, h⟩
theorem num_le {f : Fld} {fs : List Fld} {n : Int} {vs : List Val} (hf : f.kind = 1) (h : okAll (f :: fs) (nV n :: vs) = true) : f.lo ≤ n ∧ n ≤ f.hi ∧ okAll fs vs = true := by
  obtain ⟨v, r, e, f0, h⟩ := okAll_cons h
  injection e with e1 e2
  subst e1 e2
  obtain ⟨s', e, h1, h2⟩ := fits_num hf f0
  have : n = s' := congrArg Val.n e
  subst this
  exact ⟨h1, h2, h⟩
theorem putE_len (e : Ent) : (putE e).length ≤ 600 := by
  cases h : rightE e
  · rw [putE_no h]; exact Nat.zero_le _
  · obtain ⟨h1, _⟩ := right_facts h
    have hk := right_kind h
    rw [putE_eq h]
    have hb := putB_len e.bat
    have hbs : (batS e.bat).size ≤ 517 := by rw [Lib.size_eq]; exact hb
    rcases kind_cases hk with k | k | k | k | k
    · have e1 : valsE e = [sV e.topic, nV e.parts, nV e.first] := by unfold valsE; rw [k]; rfl
      rw [k, e1] at h1 ⊢
      obtain ⟨_, a2, _⟩ := str_le (f := nameF) (fs := [nF 1 1 4, offF]) rfl h1
      have a2 : (e.topic.size : Int) ≤ 24 := a2
      show (_ :: (txtB e.topic ++ (leB 1 _ ++ (leB 8 _ ++ [])))).length ≤ 600
      simp only [List.length_cons, List.length_append, leB_len, txtB_len, List.length_nil]
      omega
    · have e1 : valsE e = [sV e.topic] := by unfold valsE; rw [k]; rfl
      rw [k, e1] at h1 ⊢
      obtain ⟨_, a2, _⟩ := str_le (f := nameF) (fs := []) rfl h1
      have a2 : (e.topic.size : Int) ≤ 24 := a2
      show (_ :: (txtB e.topic ++ [])).length ≤ 600
      simp only [List.length_cons, List.length_append, txtB_len, List.length_nil]
      omega
    · have e1 : valsE e = [sV e.topic, nV e.part, sV (batS e.bat)] := by unfold valsE; rw [k]; rfl
      rw [k, e1] at h1 ⊢
      obtain ⟨_, a2, _⟩ := str_le (f := nameF) (fs := [partF, sF 1 600]) rfl h1
      have a2 : (e.topic.size : Int) ≤ 24 := a2
      show (_ :: (txtB e.topic ++ (leB 1 _ ++ (txtB (batS e.bat) ++ [])))).length ≤ 600
      simp only [List.length_cons, List.length_append, leB_len, txtB_len, List.length_nil]
      omega
    · have e1 : valsE e = [sV e.group, sV e.topic, nV e.part, nV e.off] := by unfold valsE; rw [k]; rfl
      rw [k, e1] at h1 ⊢
      obtain ⟨_, a2, h1⟩ := str_le (f := nameF) (fs := [nameF, partF, offF]) rfl h1
      have a2 : (e.group.size : Int) ≤ 24 := a2
      obtain ⟨_, a3, h1⟩ := str_le rfl h1
      have a3 : (e.topic.size : Int) ≤ 24 := a3
      show (_ :: (txtB e.group ++ (txtB e.topic ++ (leB 1 _ ++ (leB 8 _ ++ []))))).length ≤ 600
      simp only [List.length_cons, List.length_append, leB_len, txtB_len, List.length_nil]
      omega
    · have e1 : valsE e = [sV e.topic, nV e.part, nV e.off] := by unfold valsE; rw [k]; rfl
      rw [k, e1] at h1 ⊢
      obtain ⟨_, a2, _⟩ := str_le (f := nameF) (fs := [partF, offF]) rfl h1
      have a2 : (e.topic.size : Int) ≤ 24 := a2
      show (_ :: (txtB e.topic ++ (leB 1 _ ++ (leB 8 _ ++ [])))).length ≤ 600
      simp only [List.length_cons, List.length_append, leB_len, txtB_len, List.length_nil]
      omega
end Go.Proofs.YtjodiieeocaipaaGreatDoor
