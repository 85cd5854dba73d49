/-
  A cut slice's place under one name: where the room ends at the cut the model keeps the old address, and the walk need not part on it.
-/
import Derived.Test.YtjodiieeocaipaaGreatDoorBase
namespace Go.Proofs.YtjodiieeocaipaaGreatDoor
open Go.RowKit

/-- where 'x[l:]' begins: x at a, room m, elements of s cells -/
def pastA (a : Option Addr) (l m s : Nat) : Option Addr := if m = l then a else a.map (·.add (l * s))
theorem sliced_past (a : Option Addr) (l h m s : Nat) : sliced a l h m s = .slice (pastA a l m s) (h - l) (m - l) := rfl
theorem pastA_zero (a : Option Addr) (m s : Nat) : pastA a 0 m s = a := by
  unfold pastA
  split
  · rfl
  · cases a <;> simp [Addr.add]
theorem pastA_ne (a : Option Addr) (l m s : Nat) (h : m ≠ l) : pastA a l m s = a.map (·.add (l * s)) := if_neg h
theorem pastA_some (g off l m s : Nat) (h : m ≠ l) : pastA (some ⟨g, off, none⟩) l m s = some ⟨g, off + l * s, none⟩ := by
  rw [pastA_ne _ _ _ _ h]
  show some ((Addr.mk g off none).add (l * s)) = _
  rw [Addr.add_none]
theorem Rd.past {w : World} {B : Nat} {A : Option Addr} {n c : Nat} {xs : List Value} (h : Rd w B A n c xs) (k : Nat) (hk : k ≤ n) : Rd w B (pastA A k c 1) (n - k) (c - k) (xs.drop k) := by
  have hl := h.len
  have hc := h.cap
  have hb := h.big
  refine ⟨by rw [List.length_drop]; omega, by omega, by omega, fun j u hu => ?_⟩
  have hj := (List.getElem?_eq_some_iff.1 hu).1
  rw [List.length_drop] at hj
  obtain ⟨ad, e, hlt, hce⟩ := h.cell (k + j) u (by rw [← hu]; simp)
  refine ⟨ad.add k, ?_, by rw [add_block]; exact hlt, by rw [add_add']; exact hce⟩
  rw [pastA_ne _ _ _ _ (by omega), e, Nat.mul_one]
  rfl
theorem RdB.past' {w : World} {A : Option Addr} {n c : Nat} {l : List UInt8} (h : RdB w A n c l) (k : Nat) (hk : k ≤ n) : RdB w (pastA A k c 1) (n - k) (c - k) (l.drop k) := by
  have := Rd.past h k hk
  have e : (bvs l).drop k = bvs (l.drop k) := by simp [bvs, List.map_drop]
  rw [e] at this
  exact this
theorem below_le {B B' : Nat} {a b : World} (h : B ≤ B') (k : Below B' a b) : Below B a b := ⟨k.os, k.tape, k.output, k.size, fun i hi => k.block i (by omega)⟩
theorem grown_of_below {w w' : World} (h : Below w.heap.size w w') : w.grownBy w' none := ⟨h.os, h.tape, h.output, h.size, fun i hi _ => h.block i hi⟩
theorem grown_set (w : World) (p : Addr) (u : Value) : w.grownBy (w.setCell p u) (some p.block) := ⟨rfl, rfl, rfl, by simp [World.setCell], fun i _ hi => Below.heap_setCell w p u i (fun e => hi (by rw [e]))⟩
/-- what lies below B stands, though a block turned -/
theorem below_grown {w w' : World} {b B : Nat} {a : World} (h : Below B a w) (hB : B ≤ w.heap.size) (hg : w.grownBy w' (some b)) (hb : B ≤ b) : Below B a w' :=
  h.grown hg hB (fun j hj => by cases hj; exact hb)
/-- the world under a letter, with what is known of it -/
theorem wp_cut {P : Program} {c : Code} {Q : Exit → Act → World → Prop} {a : Act} {W : World} (F : World → Prop) (hF : F W) (h : ∀ w', F w' → Code.wp P c Q a w') : Code.wp P c Q a W := h W hF
/-- 'copy' of bytes at a step of a region that draws its order -/
theorem step_copy_bytes {P : Program} {ops : Array Oper} {o : Oper} {a : Act} {w : World} {K : Act → World → Prop} {Q : Exit → Act → World → Prop} {E : Prop} (hgd : o.guard = none) (d s : Operand) (dT sT : TypeId)
    (ho : o.op = .call { callee := .builtin .copy, args := #[d, s], argTypes := #[dT, sT] }) (e : TypeId) (hu : P.underlying dT = some (.slice e)) (hsz : (P.info? e).map (·.size) = some 1)
    (dp : Option Addr) (dLen dCap sLen sCap : Nat) (sp : Option Addr) (hd : a.eval d = .slice dp dLen dCap) (hs : a.eval s = .slice sp sLen sCap)
    (g off : Nat) (cur : List Value) (t : TypeId) (hg : Bk w g t cur.toArray) (new : List UInt8) (hr : RdB w sp sLen sCap new)
    (hdp : dp = some ⟨g, off, none⟩) (hfit : off + dLen ≤ cur.length) (B : Nat) (w0 : World) (hb : Below B w0 w) (hB : B ≤ g)
    (h : ∀ w', Hid (Bk w' g t (splice cur off (bvs (new.take dLen))).toArray) → Below B w0 w' → K (a.put o.dst (goInt (Nat.min sLen dLen))) w') :
    if Region.wanted o (yielded ops a.tmps) = true then Oper.wp P o a w K Q else E := by
  have hlen := hr.len
  have hcl : (bvs (new.take dLen)).length = Nat.min sLen dLen := by rw [bvs_len, List.length_take, hlen]; exact Nat.min_comm _ _
  refine step_copy_splice hgd d s dT sT ho e hu hsz dp sp dLen dCap sLen sCap hd hs g off cur t hg (bvs (new.take dLen)) hcl ?_ ?_ ?_ B w0 hb hB ?_
  · intro hp
    refine ⟨hdp, ?_⟩
    rw [hcl] at hp
    have h0 : 0 < sLen := Nat.lt_of_lt_of_le hp (Nat.min_le_left _ _)
    obtain ⟨ad, x, hA, _, _, _⟩ := hr.get h0
    refine ⟨ad, hA, fun j v hv => ?_⟩
    have hj : j < Nat.min sLen dLen := by rw [← hcl]; exact (List.getElem?_eq_some_iff.1 hv).1
    obtain ⟨ad', x', hA', _, hx', hc'⟩ := hr.get (Nat.lt_of_lt_of_le hj (Nat.min_le_left _ _))
    rw [hA] at hA'
    injection hA' with hA'
    subst hA'
    rw [hc', ← hv]
    have hx := hx'.out
    have hjd : j < dLen := Nat.lt_of_lt_of_le hj (Nat.min_le_right _ _)
    simp [bvs, bv, hjd, hx]
  · rw [hcl]
    have h1 : Nat.min sLen dLen ≤ dLen := Nat.min_le_right sLen dLen
    generalize Nat.min sLen dLen = q at h1 ⊢
    omega
  · intro v hv
    obtain ⟨b, _, rfl⟩ := List.mem_map.1 hv
    rfl
  · intro w' hw' hb'
    rw [hcl]
    exact h w' hw'.out hb'
theorem splice_bytes (old new : List UInt8) (off : Nat) : splice (bvs old) off (bvs new) = bvs (laid old off new) := by
  unfold splice laid bvs
  simp [List.map_take, List.map_drop]
/-- old cells and marks behind a call that made memory -/
theorem bcell {W w1 : World} (hb : Below W.heap.size W w1) : (∀ b o, b < W.heap.size → w1.cell? ⟨b, o, none⟩ = W.cell? ⟨b, o, none⟩) ∧ (∀ b o, b < W.heap.size → w1.frozen? ⟨b, o, none⟩ = W.frozen? ⟨b, o, none⟩) :=
  ⟨fun b o h => hb.cell (p := ⟨b, o, none⟩) h, fun b o h => hb.frozen (p := ⟨b, o, none⟩) h⟩
theorem Bk.grown {w w' : World} {g : Nat} {t : TypeId} {cs : Array Value} {row : Option Nat} (h : Bk w g t cs) (hg : w.grownBy w' row) (hne : some g ≠ row) : Bk w' g t cs := (hg.block g h.lt hne).trans h
theorem Bb.grown {w w' : World} {g : Nat} {t : TypeId} {l : List UInt8} {row : Option Nat} (h : Bb w g t l) (hg : w.grownBy w' row) (hne : some g ≠ row) : Bb w' g t l := Bk.grown h hg hne
end Go.Proofs.YtjodiieeocaipaaGreatDoor
