/-
  A word of a number; Set at whatever names and numbers.
-/
import Derived.Test.YtgigibkadbnplaaDoorGrpBad
import Derived.Test.YtgigibkadbnplaaDoorWithin
import Derived.Laws.IdiomStrings
namespace Go.Proofs.YtgigibkadbnplaaDoor
open Go.RowKit Go.Maps

/-- the j-th word -/
def wd (j : Nat) : ByteArray := ⟨#[UInt8.ofNat (97 + j)]⟩
/-- which word a number's is -/
def wn (n : Int) : Nat := (within n 0 5).toNat
theorem wn_lt (n : Int) : wn n < 6 := by have := within_in n 0 5 (by omega); unfold wn; omega
theorem wd_ok {j : Nat} (h : j < 6) : nameOk (wd j) = true := by
  match j, h with
  | 0, _ => decide
  | 1, _ => decide
  | 2, _ => decide
  | 3, _ => decide
  | 4, _ => decide
  | 5, _ => decide
theorem wd_size (j : Nat) : (wd j).size = 1 := rfl
theorem wd_inj {i j : Nat} (hi : i < 6) (hj : j < 6) (h : wd i = wd j) : i = j := by
  have h1 : UInt8.ofNat (97 + i) = UInt8.ofNat (97 + j) := by
    have := congrArg (fun b : ByteArray => b.data[0]!) h
    simpa [wd] using this
  have h2 := congrArg UInt8.toNat h1
  simp at h2
  omega

set_option maxRecDepth 100000 in
set_option maxHeartbeats 400000 in
theorem word_any (n : Int) (w : World) (hn : -9223372036854775808 ≤ n) (hn' : n ≤ 9223372036854775807) :
    Calls Tryd.prog 16 #[.int .i64 n] w fun e w' => e = .returned (.string (wd (wn n))) ∧ Below w.heap.size w w' := by
  have hb := below_new w (.cells #[.int .u8 (w8 (UInt8.ofNat (97 + wn n)))] 5)
  have hcv : (convert 34 9 (.slice (some ⟨w.heap.size, 0, none⟩) 1 1)).run Tryd.prog (w.alloc (.cells #[.int .u8 (w8 (UInt8.ofNat (97 + wn n)))] 5)) = .ok (.string (wd (wn n))) (w.alloc (.cells #[.int .u8 (w8 (UInt8.ofNat (97 + wn n)))] 5)) :=
    run_convert_bytes_back (P := Tryd.prog) _ 34 9 5 ⟨w.heap.size, 0, none⟩ 1 [UInt8.ofNat (97 + wn n)] Tryd.underlying34 Tryd.underlying5 Tryd.underlying9 (fun j hj => by
      obtain rfl : j = 0 := by simpa using hj
      exact (cell_of_row _ _ 0 _ _ _ (heap_alloc_new w _)).trans rfl)
  have hw := within_in n 0 5 (by omega)
  have h8 : w8 (UInt8.ofNat (97 + wn n)) = 97 + within n 0 5 := by
    unfold w8 wn
    rw [UInt8.toNat_ofNat']
    omega
  rw [h8] at hcv hb
  have hW := within_any n 0 5 w (by omega) (by omega) (by omega) hn hn'
  generalize within n 0 5 = z at hcv hb hw hW h8
  have hz := hw.1
  have hz' := hw.2
  have h256 : (97 + z) % 256 = 97 + z := by omega
  go_enter Tryd.func16, Tryd.ntmps16
  go_wp2_with (first | (go_at_call 15; refine hW.mono ?_; rintro e w1 ⟨rfl, rfl⟩) | fail)
  go_ret
  exact ⟨rfl, hb⟩

/-- what Set makes of the marks, where the names may be and the numbers fit -/
def setD (D : DataW Unit) (k : Lit) (o : Int) : DataW Unit := if Maps.has D k = false ∧ 32 ≤ Maps.size D then D else D.put k (.lit (.int .i64 o))
/-- what Set says -/
def saidE (D : DataW Unit) (k : Lit) (p : Int) : Value := if Maps.has D k = false ∧ 32 ≤ Maps.size D then faultV opSet p 8 else .nilIface
theorem set_good (g b : Nat) (D : DataW Unit) (a t : ByteArray) (p o : Int) (w : World) (h : Grp w g b D) (ha : nameOk a = true) (ht : nameOk t = true) (hp : 0 ≤ p) (hp' : p < 4) (ho : 0 ≤ o) (ho' : o ≤ 9223372036854775807) (hsz : Maps.size D ≤ 1000) :
    Calls Tryd.prog 9 #[.pointer (some ⟨g, 0, none⟩), .string a, .string t, .int .i64 p, .int .i64 o] w
      fun e w' => e = .returned (saidE D (mkey a t p) p) ∧ Grp w' g b (setD D (mkey a t p) o) ∧ w.grownBy w' (some b) := by
  unfold saidE setD
  by_cases hf : Maps.has D (mkey a t p) = false ∧ 32 ≤ Maps.size D
  · rw [if_pos hf, if_pos hf]
    exact (set_full g b D a t p o w h ha ht hp hp' ho hf.1 hf.2).mono fun e w' ⟨h1, h2⟩ => ⟨h1, h.ext h2, (grown_of_below h2).but _⟩
  · rw [if_neg hf, if_neg hf]
    refine set_ok g b D a t p o w h ha ht hp hp' ho ho' ?_ hsz
    cases hh : Maps.has D (mkey a t p)
    · exact .inr (by have : ¬ 32 ≤ Maps.size D := fun h => hf ⟨hh, h⟩; omega)
    · exact .inl rfl
end Go.Proofs.YtgigibkadbnplaaDoor
