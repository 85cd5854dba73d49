/-
  Plain arithmetic of the checksum: a bit's step, a byte's step, a text's fold; they are linear and one to one. No program in sight.
-/
namespace Go.Proofs.Ytcggnphoekmoaaa.CrcMath

def poly : BitVec 32 := 0x82f63b78#32
/-- one bit -/
def bit (c : BitVec 32) : BitVec 32 := if c.getLsbD 0 then (c >>> 1) ^^^ poly else c >>> 1
def bitn : Nat → BitVec 32 → BitVec 32
  | 0, c => c
  | k + 1, c => bit (bitn k c)
/-- a byte's eight bits -/
def oct (c : BitVec 32) : BitVec 32 := bitn 8 c
/-- one byte into the state -/
def one (c : BitVec 32) (x : BitVec 8) : BitVec 32 := oct (c ^^^ x.setWidth 32)
def fold (c : BitVec 32) (l : List UInt8) : BitVec 32 := l.foldl (fun c x => one c x.toBitVec) c
/-- from a sum: that of more bytes behind -/
def on (c : BitVec 32) (l : List UInt8) : BitVec 32 := ~~~ (fold (~~~ c) l)

theorem bit_xor (a b : BitVec 32) : bit (a ^^^ b) = bit a ^^^ bit b := by
  unfold bit
  rw [BitVec.getLsbD_xor, BitVec.ushiftRight_xor_distrib]
  cases ha : a.getLsbD 0 <;> cases hb : b.getLsbD 0 <;> simp
  · rw [BitVec.xor_assoc]
  · rw [BitVec.xor_assoc, BitVec.xor_assoc, BitVec.xor_comm poly]
  · rw [BitVec.xor_assoc, ← BitVec.xor_assoc poly, BitVec.xor_comm poly, BitVec.xor_assoc (b >>> 1), BitVec.xor_self, BitVec.xor_zero]
theorem bit_zero : bit 0#32 = 0#32 := by decide
theorem bit_zero_of (d : BitVec 32) (h : bit d = 0#32) : d = 0#32 := by
  unfold bit at h
  cases hb : d.getLsbD 0
  · rw [hb] at h
    simp at h
    apply BitVec.eq_of_getLsbD_eq
    intro i hi
    rcases i with _ | i
    · simpa using hb
    · have := congrArg (fun x : BitVec 32 => x.getLsbD i) h
      simp only [BitVec.getLsbD_ushiftRight] at this
      rw [Nat.add_comm] at this
      rw [this]; simp
  · rw [hb] at h
    simp at h
    have := congrArg (fun x : BitVec 32 => x.getLsbD 31) h
    simp at this
    exact absurd this (by decide)
theorem bit_inj (a b : BitVec 32) (h : bit a = bit b) : a = b := by
  have : bit (a ^^^ b) = 0#32 := by rw [bit_xor, h, BitVec.xor_self]
  have := bit_zero_of _ this
  exact BitVec.xor_eq_zero_iff.1 this
theorem bitn_xor (k : Nat) (a b : BitVec 32) : bitn k (a ^^^ b) = bitn k a ^^^ bitn k b := by
  induction k with
  | zero => rfl
  | succ k ih => simp only [bitn, ih, bit_xor]
theorem bitn_inj (k : Nat) (a b : BitVec 32) (h : bitn k a = bitn k b) : a = b := by
  induction k with
  | zero => exact h
  | succ k ih => exact ih (bit_inj _ _ h)
theorem oct_xor (a b : BitVec 32) : oct (a ^^^ b) = oct a ^^^ oct b := bitn_xor 8 a b
theorem oct_inj (a b : BitVec 32) (h : oct a = oct b) : a = b := bitn_inj 8 a b h
theorem oct_zero : oct 0#32 = 0#32 := by decide +kernel

theorem shr_shr (c : BitVec 32) (m n : Nat) : (c >>> m) >>> n = c >>> (m + n) := (BitVec.shiftRight_add c m n).symm
/-- steps of what has no low bits only shift it -/
theorem bitn_high (k : Nat) (c : BitVec 32) (h : ∀ i, i < k → c.getLsbD i = false) : bitn k c = c >>> k := by
  induction k with
  | zero => simp [bitn]
  | succ k ih =>
    have := ih fun i hi => h i (by omega)
    simp only [bitn, this]
    unfold bit
    have h0 : (c >>> k).getLsbD 0 = false := by rw [BitVec.getLsbD_ushiftRight]; exact h k (by omega)
    rw [h0]
    simp only [Bool.false_eq_true, if_false]
    rw [shr_shr]
theorem oct_split (c : BitVec 32) : oct c = oct ((c.setWidth 8).setWidth 32) ^^^ (c >>> 8) := by
  have e : c = (c.setWidth 8).setWidth 32 ^^^ ((c >>> 8) <<< 8) := by
    apply BitVec.eq_of_getLsbD_eq
    intro i hi
    simp only [BitVec.getLsbD_xor, BitVec.getLsbD_setWidth, BitVec.getLsbD_shiftLeft, BitVec.getLsbD_ushiftRight]
    by_cases h : i < 8
    · simp [h, hi]
    · have : 8 + (i - 8) = i := by omega
      simp [h, hi, this]
  have hh : oct ((c >>> 8) <<< 8) = c >>> 8 := by
    unfold oct
    rw [bitn_high 8 _ (by intro i hi; simp [BitVec.getLsbD_shiftLeft, hi])]
    apply BitVec.eq_of_getLsbD_eq
    intro i hi
    simp only [BitVec.getLsbD_ushiftRight, BitVec.getLsbD_shiftLeft]
    by_cases h : 8 + i < 32
    · simp [h]
    · have : c.getLsbD (8 + i) = false := BitVec.getLsbD_of_ge _ _ (by omega)
      simp [this]
  conv => lhs; rw [e]
  rw [oct_xor, hh]
/-- by the table: the lowest byte picks, the rest moves down -/
theorem one_table (c : BitVec 32) (x : BitVec 8) : one c x = oct ((c.setWidth 8 ^^^ x).setWidth 32) ^^^ (c >>> 8) := by
  unfold one
  rw [oct_split]
  congr 1
  · congr 1
    apply BitVec.eq_of_getLsbD_eq
    intro i hi
    simp only [BitVec.getLsbD_xor, BitVec.getLsbD_setWidth]
    by_cases h : i < 8
    · simp [h, hi]
    · have : x.getLsbD i = false := BitVec.getLsbD_of_ge _ _ (by omega)
      simp [h, this]
  · apply BitVec.eq_of_getLsbD_eq
    intro i hi
    have : x.getLsbD (8 + i) = false := BitVec.getLsbD_of_ge _ _ (by omega)
    simp only [BitVec.getLsbD_xor, BitVec.getLsbD_setWidth, BitVec.getLsbD_ushiftRight, this]
    simp

theorem fold_nil (c : BitVec 32) : fold c [] = c := rfl
theorem fold_cons (c : BitVec 32) (x : UInt8) (l : List UInt8) : fold c (x :: l) = fold (one c x.toBitVec) l := rfl
theorem fold_append (c : BitVec 32) (l m : List UInt8) : fold c (l ++ m) = fold (fold c l) m := by simp [fold, List.foldl_append]
theorem fold_snoc (c : BitVec 32) (l : List UInt8) (x : UInt8) : fold c (l ++ [x]) = one (fold c l) x.toBitVec := by rw [fold_append]; rfl
theorem not_not (c : BitVec 32) : ~~~ (~~~ c) = c := BitVec.not_not
theorem on_append (c : BitVec 32) (l m : List UInt8) : on c (l ++ m) = on (on c l) m := by
  unfold on; rw [fold_append, BitVec.not_not]
theorem on_nil (c : BitVec 32) : on c [] = c := by unfold on; rw [fold_nil, BitVec.not_not]

theorem one_xor (a b : BitVec 32) (x y : BitVec 8) : one (a ^^^ b) (x ^^^ y) = one a x ^^^ one b y := by
  unfold one
  rw [← oct_xor]
  congr 1
  apply BitVec.eq_of_getLsbD_eq
  intro i hi
  simp only [BitVec.getLsbD_xor, BitVec.getLsbD_setWidth]
  cases a.getLsbD i <;> cases b.getLsbD i <;> cases x.getLsbD i <;> cases y.getLsbD i <;> simp
theorem one_inj (a b : BitVec 32) (x : BitVec 8) (h : one a x = one b x) : a = b := by
  have := oct_inj _ _ h
  have := congrArg (· ^^^ (x.setWidth 32)) this
  simpa [BitVec.xor_assoc] using this
theorem fold_inj (a b : BitVec 32) (l : List UInt8) (h : fold a l = fold b l) : a = b := by
  induction l generalizing a b with
  | nil => exact h
  | cons x l ih => exact one_inj _ _ _ (ih _ _ h)
theorem on_inj (a b : BitVec 32) (l : List UInt8) (h : on a l = on b l) : a = b := by
  unfold on at h
  have := congrArg (~~~ ·) h
  simp only [BitVec.not_not] at this
  have := congrArg (~~~ ·) (fold_inj _ _ _ this)
  simpa only [BitVec.not_not] using this
/-- bytes xored place by place -/
def mix (l m : List UInt8) : List UInt8 := List.zipWith (· ^^^ ·) l m
theorem fold_xor (a b : BitVec 32) (l m : List UInt8) (h : l.length = m.length) : fold (a ^^^ b) (mix l m) = fold a l ^^^ fold b m := by
  induction l generalizing a b m with
  | nil => cases m with
    | nil => rfl
    | cons y m => simp at h
  | cons x l ih => cases m with
    | nil => simp at h
    | cons y m =>
      have e : mix (x :: l) (y :: m) = (x ^^^ y) :: mix l m := rfl
      rw [e, fold_cons, fold_cons, fold_cons, ← ih _ _ _ (by simpa using h)]
      congr 1
      rw [← one_xor]; rfl

/-- four bytes, the lowest first -/
def le4 (x : BitVec 32) : List UInt8 := [⟨x.setWidth 8⟩, ⟨(x >>> 8).setWidth 8⟩, ⟨(x >>> 16).setWidth 8⟩, ⟨(x >>> 24).setWidth 8⟩]
theorem one_low (c : BitVec 32) (x : BitVec 32) : one c (x.setWidth 8) = oct (c ^^^ x) ^^^ (x >>> 8) := by
  have e : x = (x.setWidth 8).setWidth 32 ^^^ ((x >>> 8) <<< 8) := by
    apply BitVec.eq_of_getLsbD_eq
    intro i hi
    simp only [BitVec.getLsbD_xor, BitVec.getLsbD_setWidth, BitVec.getLsbD_shiftLeft, BitVec.getLsbD_ushiftRight]
    by_cases h : i < 8
    · simp [h, hi]
    · have : 8 + (i - 8) = i := by omega
      simp [h, hi, this]
  have hh : oct ((x >>> 8) <<< 8) = x >>> 8 := by
    unfold oct
    rw [bitn_high 8 _ (by intro i hi; simp [BitVec.getLsbD_shiftLeft, hi])]
    apply BitVec.eq_of_getLsbD_eq
    intro i hi
    simp only [BitVec.getLsbD_ushiftRight, BitVec.getLsbD_shiftLeft]
    by_cases h : 8 + i < 32
    · simp [h]
    · have : x.getLsbD (8 + i) = false := BitVec.getLsbD_of_ge _ _ (by omega)
      simp [this]
  have : oct (c ^^^ x) = one c (x.setWidth 8) ^^^ (x >>> 8) := by
    unfold one
    rw [← hh, ← oct_xor, BitVec.xor_assoc, ← e]
  rw [this, BitVec.xor_assoc, BitVec.xor_self, BitVec.xor_zero]
/-- four bytes of x into a state: as 32 bits of the state xored with x -/
theorem fold_le4 (c x : BitVec 32) : fold c (le4 x) = oct (oct (oct (oct (c ^^^ x)))) := by
  unfold le4
  simp only [fold_cons, fold_nil]
  rw [one_low c x]
  rw [one_low _ (x >>> 8), BitVec.xor_assoc, BitVec.xor_self, BitVec.xor_zero, shr_shr]
  rw [one_low _ (x >>> 16), BitVec.xor_assoc, BitVec.xor_self, BitVec.xor_zero, shr_shr]
  rw [one_low _ (x >>> 24), BitVec.xor_assoc, BitVec.xor_self, BitVec.xor_zero, shr_shr]
  have : x >>> (24 + 8) = 0#32 := by
    apply BitVec.eq_of_getLsbD_eq
    intro i hi
    simp only [BitVec.getLsbD_ushiftRight]
    rw [BitVec.getLsbD_of_ge _ _ (by omega)]; simp
  rw [this, BitVec.xor_zero]
theorem fold_le4_inj (c x y : BitVec 32) (h : fold c (le4 x) = fold c (le4 y)) : x = y := by
  rw [fold_le4, fold_le4] at h
  have := oct_inj _ _ (oct_inj _ _ (oct_inj _ _ (oct_inj _ _ h)))
  have := congrArg (c ^^^ ·) this
  simpa [← BitVec.xor_assoc] using this
/-- a text of which four bytes beside each other turn by x -/
def burst (l : List UInt8) (k : Nat) (x : BitVec 32) : List UInt8 := l.take k ++ mix ((l.drop k).take 4) (le4 x) ++ l.drop (k + 4)
theorem mix_le4 (c x : BitVec 32) (l : List UInt8) (h : l.length = 4) : fold c (mix l (le4 x)) = fold c l ^^^ oct (oct (oct (oct x))) := by
  have h1 := fold_xor c 0#32 l (le4 x) (by rw [h]; rfl)
  rw [BitVec.xor_zero, fold_le4, BitVec.zero_xor] at h1
  exact h1
theorem burst_fold (c x : BitVec 32) (l : List UInt8) (k : Nat) (h : k + 4 ≤ l.length) : fold c (burst l k x) = fold c l ↔ x = 0#32 := by
  have hl : l = l.take k ++ ((l.drop k).take 4 ++ l.drop (k + 4)) := by
    rw [← List.drop_drop, List.take_append_drop, List.take_append_drop]
  have h4 : ((l.drop k).take 4).length = 4 := by simp; omega
  constructor
  · intro he
    unfold burst at he
    conv at he => rhs; rw [hl]
    rw [fold_append, fold_append, fold_append, fold_append, mix_le4 _ _ _ h4] at he
    have := fold_inj _ _ _ he
    have := congrArg ((fold (fold c (l.take k)) ((l.drop k).take 4)) ^^^ ·) this
    rw [← BitVec.xor_assoc, BitVec.xor_self, BitVec.zero_xor] at this
    apply oct_inj; apply oct_inj; apply oct_inj; apply oct_inj
    rw [this, oct_zero, oct_zero, oct_zero, oct_zero]
  · rintro rfl
    unfold burst
    conv => rhs; rw [hl]
    rw [fold_append, fold_append, fold_append, fold_append, mix_le4 _ _ _ h4]
    rw [oct_zero, oct_zero, oct_zero, oct_zero, BitVec.xor_zero]
theorem burst_on (c x : BitVec 32) (l : List UInt8) (k : Nat) (h : k + 4 ≤ l.length) : on c (burst l k x) = on c l ↔ x = 0#32 := by
  rw [← burst_fold (~~~ c) x l k h]
  unfold on
  constructor
  · intro he
    have := congrArg (~~~ ·) he
    simpa only [BitVec.not_not] using this
  · intro he; rw [he]
theorem xor_ones (c : BitVec 32) : c ^^^ ~~~ 0#32 = ~~~ c := by
  apply BitVec.eq_of_getLsbD_eq
  intro i hi
  rw [BitVec.getLsbD_xor, BitVec.getLsbD_not, BitVec.getLsbD_not, BitVec.getLsbD_zero]
  simp [hi]
theorem xor_not_self (c : BitVec 32) : c ^^^ ~~~ c = ~~~ 0#32 := by
  rw [← xor_ones c, ← BitVec.xor_assoc, BitVec.xor_self, BitVec.zero_xor]
/-- bytes and their sum behind them: all their fold is one number, and only then -/
theorem sum_behind (l : List UInt8) (s : BitVec 32) : on 0#32 l = s ↔ fold (~~~ 0#32) (l ++ le4 s) = oct (oct (oct (oct (~~~ 0#32)))) := by
  rw [fold_append, fold_le4]
  unfold on
  generalize fold (~~~ 0#32) l = c
  constructor
  · rintro rfl
    rw [xor_not_self]
  · intro h
    have := oct_inj _ _ (oct_inj _ _ (oct_inj _ _ (oct_inj _ _ h)))
    have h2 := congrArg (c ^^^ ·) this
    simp only [← BitVec.xor_assoc, BitVec.xor_self, BitVec.zero_xor] at h2
    rw [h2, xor_ones]
end Go.Proofs.Ytcggnphoekmoaaa.CrcMath
