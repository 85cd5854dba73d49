/-
  Rows of entries that are new, whichever was made first.
-/
import Derived.Test.YtpfdbbcfcimmfaaDoorEFew
namespace Go.Proofs.YtpfdbbcfcimmfaaDoor
open Go.RowKit

def isE (w : World) (g : Nat) : Prop := ∃ old : Array Value, Bk w g 29 old ∧ old.size = 11
theorem isE.lt {w : World} {g : Nat} (h : isE w g) : g < w.heap.size := by
  obtain ⟨old, h1, _⟩ := h
  exact h1.lt
theorem isE_drew (w : World) (g : Nat) : isE w.drew g ↔ isE w g := Iff.rfl
theorem isE.ext {w w' : World} {g : Nat} (h : isE w g) (hb : Below w.heap.size w w') : isE w' g := by
  obtain ⟨old, h1, h2⟩ := h
  exact ⟨old, h1.ext hb, h2⟩
theorem isE.alloc {w : World} {g : Nat} (h : isE w g) (o : Obj) : isE (w.alloc o) g := by
  obtain ⟨old, h1, h2⟩ := h
  exact ⟨old, h1.alloc o, h2⟩
theorem isE.row {w : World} {G : Nat} (h : isE w G) (g : Nat) (c : Array Value) (hc : c.size = 11) : isE (w.setRow g c) G := by
  obtain ⟨old, h1, h2⟩ := h
  by_cases hg : G = g
  · subst hg
    exact ⟨c, h1.row c, hc⟩
  · exact ⟨old, h1.row_far c hg, h2⟩
theorem isE_alloc (w : World) (G : Nat) : isE (w.alloc (.cells #[.int .i64 0, .string ⟨#[]⟩, .string ⟨#[]⟩, .int .i64 0, .int .i64 0, .int .i64 0, .int .i64 0, .int .i64 0, .int .i64 0, .int .i64 0, .slice none 0 0] 29)) G ↔ isE w G ∨ G = w.heap.size := by
  constructor
  · intro h
    by_cases hg : G < w.heap.size
    · obtain ⟨old, h1, h2⟩ := h
      exact .inl ⟨old, (Below.heap_alloc w _ G hg).symm.trans h1, h2⟩
    · have := h.lt
      simp at this
      exact .inr (by omega)
  · rintro (h | rfl)
    · exact h.alloc _
    · exact ⟨_, Bk.made w _ _, rfl⟩
/-- what stE does, under another name -/
def stE0 (v u : Value) : Sem Unit := stE v u
theorem stE_if (w : World) (G : Nat) (k : Int) (t s : ByteArray) (p1 p2 p3 p4 p5 p6 p7 : Int) (A : Option Addr) (n c : Nat) :
    (stE (.pointer (some ⟨G, 0, none⟩)) (.agg #[.int .i64 k, .string t, .string s, .int .i64 p1, .int .i64 p2, .int .i64 p3, .int .i64 p4, .int .i64 p5, .int .i64 p6, .int .i64 p7, .slice A n c])).run Tryd.prog w = @ite _ (isE w G) (Classical.propDecidable _) (.ok () (w.setRow G #[.int .i64 k, .string t, .string s, .int .i64 p1, .int .i64 p2, .int .i64 p3, .int .i64 p4, .int .i64 p5, .int .i64 p6, .int .i64 p7, .slice A n c])) ((stE0 (.pointer (some ⟨G, 0, none⟩)) (.agg #[.int .i64 k, .string t, .string s, .int .i64 p1, .int .i64 p2, .int .i64 p3, .int .i64 p4, .int .i64 p5, .int .i64 p6, .int .i64 p7, .slice A n c])).run Tryd.prog w) := by
  split
  · rename_i h
    obtain ⟨old, h1, h2⟩ := h
    exact stE_row h1 h2 k t s p1 p2 p3 p4 p5 p6 p7 A n c
  · rfl
theorem stE_if2 (w : World) (G g : Nat) (k' : Int) (t' s' : ByteArray) (q1 q2 q3 q4 q5 q6 q7 : Int) (A' : Option Addr) (n' c' : Nat) (k : Int) (t s : ByteArray) (p1 p2 p3 p4 p5 p6 p7 : Int) (A : Option Addr) (n c : Nat) :
    (stE (.pointer (some ⟨G, 0, none⟩)) (.agg #[.int .i64 k, .string t, .string s, .int .i64 p1, .int .i64 p2, .int .i64 p3, .int .i64 p4, .int .i64 p5, .int .i64 p6, .int .i64 p7, .slice A n c])).run Tryd.prog (w.setRow g #[.int .i64 k', .string t', .string s', .int .i64 q1, .int .i64 q2, .int .i64 q3, .int .i64 q4, .int .i64 q5, .int .i64 q6, .int .i64 q7, .slice A' n' c']) = @ite _ (isE w G) (Classical.propDecidable _) (.ok () ((w.setRow g #[.int .i64 k', .string t', .string s', .int .i64 q1, .int .i64 q2, .int .i64 q3, .int .i64 q4, .int .i64 q5, .int .i64 q6, .int .i64 q7, .slice A' n' c']).setRow G #[.int .i64 k, .string t, .string s, .int .i64 p1, .int .i64 p2, .int .i64 p3, .int .i64 p4, .int .i64 p5, .int .i64 p6, .int .i64 p7, .slice A n c])) ((stE0 (.pointer (some ⟨G, 0, none⟩)) (.agg #[.int .i64 k, .string t, .string s, .int .i64 p1, .int .i64 p2, .int .i64 p3, .int .i64 p4, .int .i64 p5, .int .i64 p6, .int .i64 p7, .slice A n c])).run Tryd.prog (w.setRow g #[.int .i64 k', .string t', .string s', .int .i64 q1, .int .i64 q2, .int .i64 q3, .int .i64 q4, .int .i64 q5, .int .i64 q6, .int .i64 q7, .slice A' n' c'])) := by
  split
  · rename_i h
    obtain ⟨old, h1, h2⟩ := h.row g #[.int .i64 k', .string t', .string s', .int .i64 q1, .int .i64 q2, .int .i64 q3, .int .i64 q4, .int .i64 q5, .int .i64 q6, .int .i64 q7, .slice A' n' c'] rfl
    exact stE_row h1 h2 k t s p1 p2 p3 p4 p5 p6 p7 A n c
  · rfl
theorem RdT.row' {w : World} {A : Option Addr} {n c : Nat} {l : List ByteArray} (h : RdT w A n c l) (g : Nat) (r : Array Value) (hg : ∀ ad, A = some ad → ad.block ≠ g) : RdT (w.setRow g r) A n c l :=
  RdT.kept h (grown_row w g r) (fun ad e e2 => hg ad e (Option.some.inj e2).symm)
/-- two rows, and the texts of two entries -/
def Two2 (w : World) (g9 g10 : Nat) (x : Ent) (A1 : Option Addr) (n1 c1 : Nat) (y : Ent) (A2 : Option Addr) (n2 c2 : Nat) : Prop :=
  Bk w g9 29 #[.int .i64 x.kind, .string x.topic, .string x.group, .int .i64 x.part, .int .i64 x.parts, .int .i64 x.first, .int .i64 x.off, .int .i64 x.bat.time, .int .i64 x.bat.prod, .int .i64 x.bat.seq, .slice A1 n1 c1] ∧ Bk w g10 29 #[.int .i64 y.kind, .string y.topic, .string y.group, .int .i64 y.part, .int .i64 y.parts, .int .i64 y.first, .int .i64 y.off, .int .i64 y.bat.time, .int .i64 y.bat.prod, .int .i64 y.bat.seq, .slice A2 n2 c2] ∧ RdT w A1 n1 c1 x.bat.vals ∧ RdT w A2 n2 c2 y.bat.vals
theorem Two2.made {w : World} {g9 g10 : Nat} {x : Ent} {A1 : Option Addr} {n1 c1 : Nat} {y : Ent} {A2 : Option Addr} {n2 c2 : Nat} (h9 : isE w g9) (h10 : isE w g10) (hne : g9 ≠ g10)
    (h1 : RdT w A1 n1 c1 x.bat.vals) (h2 : RdT w A2 n2 c2 y.bat.vals) (k1 : ∀ ad, A1 = some ad → ad.block ≠ g9 ∧ ad.block ≠ g10) (k2 : ∀ ad, A2 = some ad → ad.block ≠ g9 ∧ ad.block ≠ g10) :
    Two2 ((w.setRow g9 #[.int .i64 x.kind, .string x.topic, .string x.group, .int .i64 x.part, .int .i64 x.parts, .int .i64 x.first, .int .i64 x.off, .int .i64 x.bat.time, .int .i64 x.bat.prod, .int .i64 x.bat.seq, .slice A1 n1 c1]).setRow g10 #[.int .i64 y.kind, .string y.topic, .string y.group, .int .i64 y.part, .int .i64 y.parts, .int .i64 y.first, .int .i64 y.off, .int .i64 y.bat.time, .int .i64 y.bat.prod, .int .i64 y.bat.seq, .slice A2 n2 c2]) g9 g10 x A1 n1 c1 y A2 n2 c2 := by
  obtain ⟨o9, b9, _⟩ := h9
  obtain ⟨o10, b10, _⟩ := h10
  exact ⟨(b9.row _).row_far _ hne, (b10.row_far _ (Ne.symm hne)).row _, (h1.row' _ _ (fun ad e => (k1 ad e).1)).row' _ _ (fun ad e => (k1 ad e).2), (h2.row' _ _ (fun ad e => (k2 ad e).1)).row' _ _ (fun ad e => (k2 ad e).2)⟩
end Go.Proofs.YtpfdbbcfcimmfaaDoor
