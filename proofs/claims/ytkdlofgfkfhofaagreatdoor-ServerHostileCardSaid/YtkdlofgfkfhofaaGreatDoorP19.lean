import Derived.Test.YtkdlofgfkfhofaaGreatDoorP01
import Derived.Lib.Strings
import Derived.Test.YtkdlofgfkfhofaaGreatDoorShelf
import Derived.Lib.SlTrimSet
/-
  Rows of values by rows of fields, as bytes and back: plain lists.
-/
namespace Go.Proofs.YtkdlofgfkfhofaaGreatDoor
open Go.RowKit

/-- a field -/
structure Fld where
  kind : Int
  size : Int
  lo : Int
  hi : Int
  most : Int
/-- a value -/
structure Val where
  n : Int
  s : ByteArray
  l : List ByteArray
def inF (f : Fld) (z : Int) : Bool := decide (f.lo ≤ z) && decide (z ≤ f.hi)
/-- does a value fit its field -/
def fitsV (f : Fld) (v : Val) : Bool :=
  if f.kind = 1 then inF f v.n && decide (v.s.size = 0) && v.l.isEmpty
  else if f.kind = 2 then inF f v.s.size && decide (v.n = 0) && v.l.isEmpty
  else inF f v.l.length && v.l.all (fun s => decide ((s.size : Int) ≤ f.most)) && decide (v.n = 0) && decide (v.s.size = 0)
def txtB (s : ByteArray) : List UInt8 := leB 2 s.size ++ s.data.toList
/-- a value's bytes -/
def writV (f : Fld) (v : Val) : List UInt8 :=
  if f.kind = 1 then leB f.size.toNat v.n.toNat
  else if f.kind = 2 then txtB v.s
  else leB 1 v.l.length ++ v.l.flatMap txtB
def okAll (fs : List Fld) (vs : List Val) : Bool := decide (vs.length = fs.length) && (List.zip fs vs).all (fun p => fitsV p.1 p.2)
def bytesAll (fs : List Fld) (vs : List Val) : List UInt8 := (List.zip fs vs).flatMap (fun p => writV p.1 p.2)
/-- a number of so many bytes -/
def getN (size : Nat) (lo hi : Int) (bs : List UInt8) : Except Int (Int × List UInt8) :=
  if bs.length < size then .error 3
  else if lo ≤ (leN (bs.take size) : Int) ∧ (leN (bs.take size) : Int) ≤ hi then .ok (leN (bs.take size), bs.drop size) else .error 2
/-- a text -/
def getT (lo hi : Int) (bs : List UInt8) : Except Int (ByteArray × List UInt8) :=
  match getN 2 lo hi bs with
  | .error k => .error k
  | .ok (n, r) => if r.length < n.toNat then .error 3 else .ok (⟨(r.take n.toNat).toArray⟩, r.drop n.toNat)
/-- so many texts -/
def getTs (most : Int) : Nat → List UInt8 → Except Int (List ByteArray × List UInt8)
  | 0, bs => .ok ([], bs)
  | k + 1, bs =>
    match getT 0 most bs with
    | .error e => .error e
    | .ok (s, r) =>
      match getTs most k r with
      | .error e => .error e
      | .ok (l, r') => .ok (s :: l, r')
/-- a value of a field -/
def getV (f : Fld) (bs : List UInt8) : Except Int (Val × List UInt8) :=
  if f.kind = 1 then
    match getN f.size.toNat f.lo f.hi bs with
    | .error e => .error e
    | .ok (n, r) => .ok (⟨n, ⟨#[]⟩, []⟩, r)
  else if f.kind = 2 then
    match getT f.lo f.hi bs with
    | .error e => .error e
    | .ok (s, r) => .ok (⟨0, s, []⟩, r)
  else
    match getN 1 f.lo f.hi bs with
    | .error e => .error e
    | .ok (n, r) =>
      match getTs f.most n.toNat r with
      | .error e => .error e
      | .ok (l, r') => .ok (⟨0, ⟨#[]⟩, l⟩, r')
def getAll : List Fld → List UInt8 → Except Int (List Val)
  | [], [] => .ok []
  | [], _ :: _ => .error 4
  | f :: fs, bs =>
    match getV f bs with
    | .error e => .error e
    | .ok (v, r) =>
      match getAll fs r with
      | .error e => .error e
      | .ok vs => .ok (v :: vs)

/-- a field that may be: of these alone the laws below speak -/
structure GoodF (f : Fld) : Prop where
  kind : (f.kind = 1 ∧ 0 ≤ f.lo ∧ 0 < f.size ∧ f.size ≤ 8 ∧ f.hi < (256 : Int) ^ f.size.toNat) ∨ (f.kind = 2 ∧ 0 ≤ f.lo ∧ f.hi ≤ 65535) ∨ (f.kind = 3 ∧ 0 ≤ f.lo ∧ f.hi ≤ 255 ∧ f.most ≤ 65535)
theorem zero_str {s : ByteArray} (h : s.size = 0) : s = ⟨#[]⟩ := by
  rw [← Lib.mk_data s]
  have : s.data.toList = [] := List.eq_nil_of_length_eq_zero (by rw [← Lib.size_eq]; exact h)
  rw [this]
theorem getN_put {size : Nat} {lo hi n : Int} (h0 : 0 ≤ n) (h1 : lo ≤ n) (h2 : n ≤ hi) (hb : hi < (256 : Int) ^ size) (r : List UInt8) : getN size lo hi (leB size n.toNat ++ r) = .ok (n, r) := by
  unfold getN
  have hl := leB_len size n.toNat
  have hlt : n.toNat < 256 ^ size := by
    have : (n.toNat : Int) < ((256 ^ size : Nat) : Int) := by
      rw [Int.toNat_of_nonneg h0]
      have e : ((256 ^ size : Nat) : Int) = (256 : Int) ^ size := by rw [Int.natCast_pow]; rfl
      omega
    omega
  have ht : (leB size n.toNat ++ r).take size = leB size n.toNat := by rw [List.take_append_of_le_length (by omega), List.take_of_length_le (by omega)]
  have hd : (leB size n.toNat ++ r).drop size = r := by rw [List.drop_append_of_le_length (by omega), List.drop_of_length_le (by omega), List.nil_append]
  rw [if_neg (by rw [List.length_append]; omega), ht, hd, leN_leB, Nat.mod_eq_of_lt hlt, Int.toNat_of_nonneg h0, if_pos ⟨h1, h2⟩]
theorem getN_inv {size : Nat} {lo hi n : Int} {bs r : List UInt8} (h : getN size lo hi bs = .ok (n, r)) : 0 ≤ n ∧ lo ≤ n ∧ n ≤ hi ∧ bs = leB size n.toNat ++ r := by
  unfold getN at h
  split at h
  · cases h
  · split at h
    · rename_i hl hc
      injection h with h
      injection h with h1 h2
      subst h1 h2
      refine ⟨by omega, hc.1, hc.2, ?_⟩
      have e : (bs.take size).length = size := by rw [List.length_take]; omega
      rw [Int.toNat_natCast]
      conv => lhs; rw [← List.take_append_drop size bs]
      congr 1
      have := leB_leN (bs.take size)
      rw [e] at this
      exact this.symm
    · cases h
theorem getN_cut {size : Nat} {lo hi : Int} {bs : List UInt8} (h : bs.length < size) : getN size lo hi bs = .error 3 := by
  unfold getN
  rw [if_pos h]
theorem txtB_len (s : ByteArray) : (txtB s).length = 2 + s.size := by unfold txtB; rw [List.length_append, leB_len, ← Lib.size_eq]
theorem getT_put {lo hi : Int} {s : ByteArray} (h1 : lo ≤ s.size) (h2 : (s.size : Int) ≤ hi) (hb : hi ≤ 65535) (r : List UInt8) : getT lo hi (txtB s ++ r) = .ok (s, r) := by
  unfold getT txtB
  have := getN_put (size := 2) (lo := lo) (hi := hi) (n := s.size) (by omega) h1 h2 (by omega) (s.data.toList ++ r)
  rw [Int.toNat_natCast] at this
  rw [List.append_assoc, this]
  simp only
  have hl := Lib.size_eq s
  rw [Int.toNat_natCast, if_neg (by rw [List.length_append]; omega), List.take_append_of_le_length (by omega), List.take_of_length_le (by omega), List.drop_append_of_le_length (by omega), List.drop_of_length_le (by omega), List.nil_append, Lib.mk_data]
theorem getT_inv {lo hi : Int} {s : ByteArray} {bs r : List UInt8} (h : getT lo hi bs = .ok (s, r)) : lo ≤ s.size ∧ (s.size : Int) ≤ hi ∧ bs = txtB s ++ r := by
  unfold getT at h
  split at h
  · cases h
  · rename_i n r' hn
    obtain ⟨a0, a1, a2, a3⟩ := getN_inv hn
    split at h
    · cases h
    · injection h with h
      injection h with h1 h2
      subst h1 h2
      have hl : (⟨(r'.take n.toNat).toArray⟩ : ByteArray).size = n.toNat := by rw [Lib.size_eq]; simp; omega
      refine ⟨by rw [hl]; omega, by rw [hl]; omega, ?_⟩
      unfold txtB
      rw [hl, a3, List.append_assoc]
      simp
theorem getT_cut {lo hi : Int} {s : ByteArray} (h1 : lo ≤ s.size) (h2 : (s.size : Int) ≤ hi) (hb : hi ≤ 65535) {k : Nat} (hk : k < (txtB s).length) : getT lo hi ((txtB s).take k) = .error 3 := by
  rw [txtB_len] at hk
  unfold getT
  by_cases h : k < 2
  · rw [getN_cut (by rw [List.length_take]; omega)]
  · have e : (txtB s).take k = leB 2 s.size ++ s.data.toList.take (k - 2) := by
      unfold txtB
      rw [List.take_append, leB_len, List.take_of_length_le (by rw [leB_len]; omega)]
    have := getN_put (size := 2) (lo := lo) (hi := hi) (n := s.size) (by omega) h1 h2 (by omega) (s.data.toList.take (k - 2))
    rw [Int.toNat_natCast] at this
    rw [e, this]
    simp only
    rw [Int.toNat_natCast, if_pos (by rw [List.length_take]; have := Lib.size_eq s; omega)]
theorem getTs_put {most : Int} (hb : most ≤ 65535) : ∀ (l : List ByteArray) (r : List UInt8), (∀ s ∈ l, (s.size : Int) ≤ most) → getTs most l.length (l.flatMap txtB ++ r) = .ok (l, r)
  | [], r, _ => rfl
  | s :: l, r, h => by
    have ih := getTs_put hb l r (fun x hx => h x (List.mem_cons_of_mem _ hx))
    rw [List.length_cons, List.flatMap_cons, List.append_assoc]
    unfold getTs
    rw [getT_put (by omega) (h s List.mem_cons_self) hb]
    simp only [ih]
theorem getTs_inv {most : Int} : ∀ (k : Nat) (bs : List UInt8) (l : List ByteArray) (r : List UInt8), getTs most k bs = .ok (l, r) → l.length = k ∧ (∀ s ∈ l, (s.size : Int) ≤ most) ∧ bs = l.flatMap txtB ++ r
  | 0, bs, l, r, h => by
    unfold getTs at h
    injection h with h
    injection h with h1 h2
    subst h1 h2
    exact ⟨rfl, fun s hs => absurd hs List.not_mem_nil, rfl⟩
  | k + 1, bs, l, r, h => by
    unfold getTs at h
    split at h
    · cases h
    · rename_i s r1 h1
      split at h
      · cases h
      · rename_i l1 r2 h2
        injection h with h
        injection h with e1 e2
        subst e1 e2
        obtain ⟨b1, b2, b3⟩ := getTs_inv k _ _ _ h2
        obtain ⟨c1, c2, c3⟩ := getT_inv h1
        refine ⟨by rw [List.length_cons, b1], fun x hx => ?_, by rw [c3, b3, List.flatMap_cons, List.append_assoc]⟩
        rcases List.mem_cons.1 hx with rfl | hx
        · exact c2
        · exact b2 x hx
theorem getTs_cut {most : Int} (hb : most ≤ 65535) : ∀ (l : List ByteArray) (k : Nat), (∀ s ∈ l, (s.size : Int) ≤ most) → k < (l.flatMap txtB).length → getTs most l.length ((l.flatMap txtB).take k) = .error 3
  | [], k, _, h => absurd h (Nat.not_lt_zero _)
  | s :: l, k, h, hk => by
    rw [List.flatMap_cons, List.length_append] at hk
    rw [List.length_cons, List.flatMap_cons]
    unfold getTs
    by_cases hs : k < (txtB s).length
    · rw [List.take_append_of_le_length (by omega), getT_cut (by omega) (h s List.mem_cons_self) hb hs]
    · rw [List.take_append, List.take_of_length_le (by omega), getT_put (by omega) (h s List.mem_cons_self) hb]
      simp only
      rw [getTs_cut hb l (k - (txtB s).length) (fun x hx => h x (List.mem_cons_of_mem _ hx)) (by omega)]
theorem getV_put {f : Fld} (hf : GoodF f) {v : Val} (h : fitsV f v = true) (r : List UInt8) : getV f (writV f v ++ r) = .ok (v, r) := by
  obtain ⟨n, s, l⟩ := v
  unfold getV writV
  unfold fitsV inF at h
  rcases hf.kind with ⟨k1, a1, a2, a3, a4⟩ | ⟨k2, a1, a2⟩ | ⟨k3, a1, a2, a3⟩
  · rw [if_pos k1] at h
    simp only [Bool.and_eq_true, decide_eq_true_iff, List.isEmpty_iff] at h
    obtain ⟨⟨⟨h1, h2⟩, h3⟩, h4⟩ := h
    rw [if_pos k1, if_pos k1, getN_put (by omega) h1 h2 a4]
    simp only [h4, zero_str h3]
  · rw [if_neg (by omega), if_pos k2] at h
    simp only [Bool.and_eq_true, decide_eq_true_iff, List.isEmpty_iff] at h
    obtain ⟨⟨⟨h1, h2⟩, h3⟩, h4⟩ := h
    rw [if_neg (by omega), if_pos k2, if_neg (by omega), if_pos k2, getT_put h1 h2 a2]
    simp only [h3, h4]
  · rw [if_neg (by omega), if_neg (by omega)] at h
    simp only [Bool.and_eq_true, decide_eq_true_iff, List.all_eq_true] at h
    obtain ⟨⟨⟨⟨h1, h2⟩, h5⟩, h3⟩, h4⟩ := h
    rw [if_neg (by omega), if_neg (by omega), if_neg (by omega), if_neg (by omega), List.append_assoc]
    have := getN_put (size := 1) (lo := f.lo) (hi := f.hi) (n := l.length) (by omega) h1 h2 (by omega) (l.flatMap txtB ++ r)
    rw [Int.toNat_natCast] at this
    rw [this]
    simp only
    rw [Int.toNat_natCast, getTs_put a3 l r h5]
    simp only [h3, zero_str h4]
theorem getV_inv {f : Fld} (hf : GoodF f) {v : Val} {bs r : List UInt8} (h : getV f bs = .ok (v, r)) : fitsV f v = true ∧ bs = writV f v ++ r := by
  unfold getV at h
  unfold fitsV writV inF
  rcases hf.kind with ⟨k1, a1, a2, a3, a4⟩ | ⟨k2, a1, a2⟩ | ⟨k3, a1, a2, a3⟩
  · rw [if_pos k1] at h
    split at h
    · cases h
    · rename_i n r' hn
      injection h with h
      injection h with e1 e2
      subst e1 e2
      obtain ⟨b0, b1, b2, b3⟩ := getN_inv hn
      rw [if_pos k1, if_pos k1]
      exact ⟨by simp [b1, b2]; rfl, b3⟩
  · rw [if_neg (by omega), if_pos k2] at h
    split at h
    · cases h
    · rename_i n r' hn
      injection h with h
      injection h with e1 e2
      subst e1 e2
      obtain ⟨b1, b2, b3⟩ := getT_inv hn
      rw [if_neg (by omega), if_pos k2, if_neg (by omega), if_pos k2]
      exact ⟨by simp [b1, b2], b3⟩
  · rw [if_neg (by omega), if_neg (by omega)] at h
    split at h
    · cases h
    · rename_i n r' hn
      split at h
      · cases h
      · rename_i l r2 hl
        injection h with h
        injection h with e1 e2
        subst e1 e2
        obtain ⟨b0, b1, b2, b3⟩ := getN_inv hn
        obtain ⟨c1, c2, c3⟩ := getTs_inv _ _ _ _ hl
        rw [if_neg (by omega), if_neg (by omega), if_neg (by omega), if_neg (by omega)]
        have hn' : (l.length : Int) = n := by rw [c1]; omega
        refine ⟨?_, ?_⟩
        · simp only [Bool.and_eq_true, decide_eq_true_iff, List.all_eq_true]
          exact ⟨⟨⟨⟨by omega, by omega⟩, c2⟩, trivial⟩, rfl⟩
        · rw [b3, c3, List.append_assoc, c1]
theorem getV_cut {f : Fld} (hf : GoodF f) {v : Val} (h : fitsV f v = true) {k : Nat} (hk : k < (writV f v).length) : getV f ((writV f v).take k) = .error 3 := by
  obtain ⟨n, s, l⟩ := v
  unfold getV
  unfold writV at hk ⊢
  unfold fitsV inF at h
  rcases hf.kind with ⟨k1, a1, a2, a3, a4⟩ | ⟨k2, a1, a2⟩ | ⟨k3, a1, a2, a3⟩
  · rw [if_pos k1] at hk ⊢
    rw [leB_len] at hk
    rw [if_pos k1, getN_cut (by rw [List.length_take, leB_len]; omega)]
  · rw [if_neg (by omega), if_pos k2] at h
    simp only [Bool.and_eq_true, decide_eq_true_iff, List.isEmpty_iff] at h
    obtain ⟨⟨⟨h1, h2⟩, h3⟩, h4⟩ := h
    rw [if_neg (by omega), if_pos k2] at hk ⊢
    rw [if_neg (by omega), if_pos k2, getT_cut h1 h2 a2 hk]
  · rw [if_neg (by omega), if_neg (by omega)] at h
    simp only [Bool.and_eq_true, decide_eq_true_iff, List.all_eq_true] at h
    obtain ⟨⟨⟨⟨h1, h2⟩, h5⟩, h3⟩, h4⟩ := h
    rw [if_neg (by omega), if_neg (by omega)] at hk ⊢
    rw [if_neg (by omega), if_neg (by omega)]
    by_cases h0 : k < 1
    · rw [getN_cut (by rw [List.length_take]; omega)]
    · rw [List.length_append, leB_len] at hk
      have hk : k < 1 + (l.flatMap txtB).length := hk
      rw [List.take_append, List.take_of_length_le (by rw [leB_len]; omega), leB_len]
      have := getN_put (size := 1) (lo := f.lo) (hi := f.hi) (n := l.length) (by omega) h1 h2 (by omega) ((l.flatMap txtB).take (k - 1))
      rw [Int.toNat_natCast] at this
      rw [this]
      simp only
      rw [Int.toNat_natCast, getTs_cut a3 l _ h5 (by omega)]
theorem okAll_cons {f : Fld} {fs : List Fld} {vs : List Val} (h : okAll (f :: fs) vs = true) : ∃ v vs', vs = v :: vs' ∧ fitsV f v = true ∧ okAll fs vs' = true := by
  unfold okAll at h ⊢
  rw [Bool.and_eq_true, decide_eq_true_iff] at h
  obtain ⟨h1, h2⟩ := h
  match vs, h1, h2 with
  | v :: vs', h1, h2 =>
    rw [List.zip_cons_cons, List.all_cons, Bool.and_eq_true] at h2
    refine ⟨v, vs', rfl, h2.1, ?_⟩
    rw [h2.2, Bool.and_true, decide_eq_true_iff]
    simpa using h1
theorem okAll_nil {vs : List Val} (h : okAll [] vs = true) : vs = [] := by
  unfold okAll at h
  rw [Bool.and_eq_true, decide_eq_true_iff] at h
  exact List.eq_nil_of_length_eq_zero h.1
theorem bytesAll_cons (f : Fld) (fs : List Fld) (v : Val) (vs : List Val) : bytesAll (f :: fs) (v :: vs) = writV f v ++ bytesAll fs vs := rfl
theorem getAll_put : ∀ (fs : List Fld) (vs : List Val), (∀ f ∈ fs, GoodF f) → okAll fs vs = true → getAll fs (bytesAll fs vs) = .ok vs
  | [], vs, _, h => by rw [okAll_nil h]; rfl
  | f :: fs, vs, hg, h => by
    obtain ⟨v, vs', rfl, h1, h2⟩ := okAll_cons h
    rw [bytesAll_cons]
    unfold getAll
    rw [getV_put (hg f List.mem_cons_self) h1]
    simp only [getAll_put fs vs' (fun x hx => hg x (List.mem_cons_of_mem _ hx)) h2]
theorem getAll_more : ∀ (fs : List Fld) (vs : List Val) (x : UInt8), (∀ f ∈ fs, GoodF f) → okAll fs vs = true → getAll fs (bytesAll fs vs ++ [x]) = .error 4
  | [], vs, x, _, h => by rw [okAll_nil h]; rfl
  | f :: fs, vs, x, hg, h => by
    obtain ⟨v, vs', rfl, h1, h2⟩ := okAll_cons h
    rw [bytesAll_cons, List.append_assoc]
    unfold getAll
    rw [getV_put (hg f List.mem_cons_self) h1]
    simp only [getAll_more fs vs' x (fun x hx => hg x (List.mem_cons_of_mem _ hx)) h2]
theorem getAll_cut : ∀ (fs : List Fld) (vs : List Val) (k : Nat), (∀ f ∈ fs, GoodF f) → okAll fs vs = true → k < (bytesAll fs vs).length → getAll fs ((bytesAll fs vs).take k) = .error 3
  | [], vs, k, _, h, hk => by rw [okAll_nil h] at hk; exact absurd hk (Nat.not_lt_zero _)
  | f :: fs, vs, k, hg, h, hk => by
    obtain ⟨v, vs', rfl, h1, h2⟩ := okAll_cons h
    rw [bytesAll_cons] at hk ⊢
    unfold getAll
    by_cases hs : k < (writV f v).length
    · rw [List.take_append_of_le_length (by omega), getV_cut (hg f List.mem_cons_self) h1 hs]
    · rw [List.length_append] at hk
      rw [List.take_append, List.take_of_length_le (by omega), getV_put (hg f List.mem_cons_self) h1]
      simp only [getAll_cut fs vs' (k - (writV f v).length) (fun x hx => hg x (List.mem_cons_of_mem _ hx)) h2 (by omega)]
theorem getAll_inv : ∀ (fs : List Fld) (bs : List UInt8) (vs : List Val), (∀ f ∈ fs, GoodF f) → getAll fs bs = .ok vs → okAll fs vs = true ∧ bytesAll fs vs = bs
  | [], [], vs, _, h => by
    unfold getAll at h
    injection h with h
    subst h
    exact ⟨rfl, rfl⟩
  | [], _ :: _, vs, _, h => by unfold getAll at h; cases h
  | f :: fs, bs, vs, hg, h => by
    unfold getAll at h
    split at h
    · cases h
    · rename_i v r hv
      split at h
      · cases h
      · rename_i vs' hvs
        injection h with h
        subst h
        obtain ⟨a1, a2⟩ := getV_inv (hg f List.mem_cons_self) hv
        obtain ⟨b1, b2⟩ := getAll_inv fs r vs' (fun x hx => hg x (List.mem_cons_of_mem _ hx)) hvs
        refine ⟨?_, by rw [bytesAll_cons, b2, a2]⟩
        unfold okAll at b1 ⊢
        rw [Bool.and_eq_true, decide_eq_true_iff] at b1
        rw [List.zip_cons_cons, List.all_cons, a1, b1.2, Bool.true_and, Bool.and_true, decide_eq_true_iff, List.length_cons, List.length_cons, b1.1]
end Go.Proofs.YtkdlofgfkfhofaaGreatDoor

/-
  May a text be a name: the walk of the package's Name.
-/
namespace Go.Proofs.YtkdlofgfkfhofaaGreatDoor
open Go.RowKit

/-- the bytes that may stand in a name -/
def LET : List UInt8 := [97, 98, 99, 100, 101, 102, 103, 104, 105, 106, 107, 108, 109, 110, 111, 112, 113, 114, 115, 116, 117, 118, 119, 120, 121, 122, 48, 49, 50, 51, 52, 53, 54, 55, 56, 57, 45, 46]
def isLet (x : UInt8) : Bool := LET.contains x
/-- may it be a name -/
def nameOk (s : ByteArray) : Bool := decide (0 < s.size) && decide (s.size ≤ 24) && s.data.toList.all isLet

theorem trim_any (s : ByteArray) (hs : s.size ≤ 9223372036854775807) (w : World) :
    Calls Tryz.prog 187 #[.string s, .string ⟨#[97, 98, 99, 100, 101, 102, 103, 104, 105, 106, 107, 108, 109, 110, 111, 112, 113, 114, 115, 116, 117, 118, 119, 120, 121, 122, 48, 49, 50, 51, 52, 53, 54, 55, 56, 57, 45, 46]⟩] w
      fun e w' => e = .returned (.string ⟨(Lib.trimS s.data.toList LET).toArray⟩) ∧ Below w.heap.size w w' :=
  Any.strings_Trim_laid Tryz.lays160 (by kernel_rfl) s ⟨#[97, 98, 99, 100, 101, 102, 103, 104, 105, 106, 107, 108, 109, 110, 111, 112, 113, 114, 115, 116, 117, 118, 119, 120, 121, 122, 48, 49, 50, 51, 52, 53, 54, 55, 56, 57, 45, 46]⟩ w hs (by decide) (ascii_of_all (by decide))

theorem dropWhile_nil (p : UInt8 → Bool) : ∀ m : List UInt8, (m.dropWhile p = []) ↔ m.all p = true
  | [] => by simp
  | x :: m => by
    by_cases h : p x = true
    · rw [List.dropWhile_cons_of_pos h, dropWhile_nil p m, List.all_cons, h, Bool.true_and]
    · rw [List.dropWhile_cons_of_neg h, List.all_cons]; simp [h]
theorem dropWhile_head (p : UInt8 → Bool) : ∀ (m : List UInt8) (x : UInt8) (r : List UInt8), m.dropWhile p = x :: r → p x = false
  | [], x, r, h => by cases h
  | y :: m, x, r, h => by
    by_cases hy : p y = true
    · rw [List.dropWhile_cons_of_pos hy] at h; exact dropWhile_head p m x r h
    · rw [List.dropWhile_cons_of_neg hy] at h; injection h with h1 _; subst h1; simpa using hy
theorem trimS_nil (l : List UInt8) : (Lib.trimS l LET).isEmpty = l.all isLet := by
  apply Bool.eq_iff_iff.2
  rw [List.isEmpty_iff]
  unfold Lib.trimS Lib.trimLeftS Lib.trimRightS
  rw [dropWhile_nil, show (fun x => LET.contains x) = isLet from rfl, List.all_reverse]
  constructor
  · intro h
    have h2 : l.reverse.dropWhile isLet = [] := by
      cases hd : l.reverse.dropWhile isLet with
      | nil => rfl
      | cons x m =>
        have h3 := dropWhile_head isLet _ _ _ hd
        rw [hd, List.all_cons, h3] at h
        cases h
    rw [dropWhile_nil, List.all_reverse] at h2
    exact h2
  · intro h
    have h2 : l.reverse.dropWhile isLet = [] := by rw [dropWhile_nil, List.all_reverse]; exact h
    rw [h2]; rfl

set_option maxRecDepth 100000 in
theorem name_any (s : ByteArray) (hs : s.size ≤ 9223372036854775807) (w : World) :
    Calls Tryz.prog 132 #[.string s] w fun e w' => e = .returned (.bool (nameOk s)) ∧ Below w.heap.size w w' := by
  have hb0 := Below.refl w.heap.size w
  by_cases h0 : s.size = 0
  · obtain rfl : s = ⟨#[]⟩ := by
      rw [← Lib.mk_data s]
      have : s.data.toList = [] := List.eq_nil_of_length_eq_zero (by rw [← Lib.size_eq]; exact h0)
      rw [this]
    go_enter Tryz.func132, Tryz.ntmps132
    go_wp2
    go_ret
    exact ⟨rfl, hb0⟩
  · have hne : s.data.toList ≠ [] := fun h => h0 (by rw [Lib.size_eq, h]; rfl)
    have hne' : s.toList ≠ [] := by rw [Lib.toList_data]; exact hne
    by_cases h24 : (s.size : Int) ≤ 24
    · have HT := Lib.hid (trim_any s hs w)
      go_enter Tryz.func132, Tryz.ntmps132
      go_wp2_with (first | (go_at_call 187; refine HT.out.mono ?_; rintro e w1 ⟨rfl, hb1⟩) | fail)
      go_ret
      refine ⟨ret_bool ?_, hb1⟩
      have hp : 0 < s.size := by omega
      have h24' : s.size ≤ 24 := by omega
      have he : s.toList.isEmpty = false := by
        cases hl : s.toList with
        | nil => exact absurd hl hne'
        | cons x m => rfl
      rw [trimS_nil, he]
      simp [nameOk, hp, h24']
    · go_enter Tryz.func132, Tryz.ntmps132
      go_wp2
      go_ret
      refine ⟨?_, hb0⟩
      have : ¬ (s.size ≤ 24) := by omega
      simp [nameOk, this]
end Go.Proofs.YtkdlofgfkfhofaaGreatDoor
