/-
  The broker's catalogue as plain records: logs, what producers sent, partitions, topics; what state.Apply computes.
-/
import Derived.Test.YtjodiieeocaipaaGreatDoorEEnt
import Derived.Test.YtjodiieeocaipaaGreatDoorGrpFog
namespace Go.Proofs.YtjodiieeocaipaaGreatDoor
open Go.RowKit Go.Maps

/-- a batch's head in a log -/
structure Hd where
  base : Int
  cnt : Int
  time : Int
  stripe : Int
  ent : Int
def noHd : Hd := ⟨0, 0, 0, 0, 0⟩
/-- a log -/
structure LogM where
  start : Int
  next : Int
  heads : List Hd
def newLog (first : Int) : LogM := ⟨first, first, []⟩
/-- what a producer sent last -/
structure SentM where
  seq : Int
  base : Int
  cnt : Int
/-- what producers sent last -/
abbrev DedM := Int → Option SentM
structure PartM where
  log : LogM
  ded : DedM
def newPart (first : Int) : PartM := ⟨newLog first, fun _ => none⟩
/-- what came of an entry -/
structure DoneM where
  base : Int
  cnt : Int
  again : Bool
def noDone : DoneM := ⟨0, 0, false⟩

def maxI : Int := 9223372036854775807
/-- index.Seek, where heads follow each other -/
def seekM (l : List Hd) (off : Int) : Nat := l.findIdx (fun h => decide (off - h.base < h.cnt))
/-- what holds of a log of at most N batches -/
structure LogM.Ok (N : Nat) (L : LogM) : Prop where
  start0 : 0 ≤ L.start
  le : L.start ≤ L.next
  big : L.next ≤ maxI
  each : ∀ h ∈ L.heads, 0 ≤ h.base ∧ 1 ≤ h.cnt ∧ h.cnt ≤ 8 ∧ h.base + h.cnt ≤ L.next
  chain : L.heads.Pairwise (fun a b => a.base + a.cnt ≤ b.base)
  few : L.heads.length ≤ N
theorem newLog_ok {first : Int} (h : 0 ≤ first) (h' : first ≤ maxI) : (newLog first).Ok 0 :=
  ⟨h, Int.le_refl _, h', fun _ hm => absurd hm List.not_mem_nil, List.Pairwise.nil, Nat.le_refl _⟩

/-- may a batch be added? -/
def addOk (n time stripe ent : Int) : Bool := decide (1 ≤ n) && decide (n ≤ 8) && decide (0 ≤ time) && decide (time ≤ 1125899906842624) && decide (0 ≤ stripe) && decide (0 ≤ ent)
/-- plog.Add: the refusal; 0: none -/
def addBad (L : LogM) (n time stripe ent : Int) : Int := if addOk n time stripe ent = false then 1 else if maxI - L.next < n then 13 else 0
def addLog (L : LogM) (n time stripe ent : Int) : LogM := ⟨L.start, L.next + n, L.heads ++ [⟨L.next, n, time, stripe, ent⟩]⟩
/-- plog.Trim -/
def trimBad (L : LogM) (off : Int) : Int := if 0 ≤ off ∧ off ≤ L.next then 0 else 13
def trimLog (L : LogM) (off : Int) : LogM := if L.start < off then ⟨off, L.next, L.heads.drop (seekM L.heads off)⟩ else L

/-- dedup.Ask: what was sent, is it that again, the refusal -/
def askD (d : DedM) (p s : Int) : SentM × Bool × Int :=
  if p = 0 then (⟨0, 0, 0⟩, false, 0)
  else if p < 0 ∨ 1048576 < p ∨ s < 0 ∨ 1099511627776 < s then (⟨0, 0, 0⟩, false, 1)
  else match d p with
    | some x => if s = x.seq then (x, true, 0) else if s = x.seq + 1 then (⟨0, 0, 0⟩, false, 0) else (⟨0, 0, 0⟩, false, 12)
    | none => if s = 0 then (⟨0, 0, 0⟩, false, 0) else (⟨0, 0, 0⟩, false, 12)
def noteD (d : DedM) (p : Int) (s : SentM) : DedM := if p = 0 then d else fun q => if q = p then some s else d q

/-- a partition's produce -/
def prodM (P : PartM) (b : Bat) (stripe at_ : Int) : PartM × DoneM × Int :=
  match askD P.ded b.prod b.seq with
  | (x, again, bad) =>
    if bad ≠ 0 then (P, noDone, bad)
    else if again = true then (P, ⟨x.base, x.cnt, true⟩, 0)
    else
      let n : Int := b.vals.length
      let e := addBad P.log n b.time stripe at_
      if e ≠ 0 then (P, noDone, e)
      else (⟨addLog P.log n b.time stripe at_, noteD P.ded b.prod ⟨b.seq, P.log.next, n⟩⟩, ⟨P.log.next, n, false⟩, 0)

/-- topics by rising names -/
abbrev TopM := List (ByteArray × List PartM)
def namL (n : ByteArray) : List UInt8 := n.data.toList
def insT (x : ByteArray × List PartM) : TopM → TopM
  | [] => [x]
  | y :: r => if bytesBefore (namL x.1) (namL y.1) then x :: y :: r else y :: insT x r
def delT (n : ByteArray) (T : TopM) : TopM := T.filter (fun t => !(decide (t.1 = n)))
def findT (T : TopM) (n : ByteArray) : Option (List PartM) := (T.find? (fun t => decide (t.1 = n))).map (·.2)
def hasT (T : TopM) (n : ByteArray) : Bool := T.any (fun t => decide (t.1 = n))
def partT (T : TopM) (n : ByteArray) (k : Int) : Option PartM := if 0 ≤ k then (findT T n).bind (fun l => l[k.toNat]?) else none
def setT (T : TopM) (n : ByteArray) (k : Int) (p : PartM) : TopM := T.map (fun t => if t.1 = n then (t.1, t.2.set k.toNat p) else t)

structure StM where
  top : TopM
  grp : DataW Unit
def newSt : StM := ⟨[], .map []⟩
/-- group.Set: the refusal -/
def setBad (D : DataW Unit) (g t : ByteArray) (p o : Int) : Int :=
  if nameOk g && (nameOk t && (decide (0 ≤ p) && (decide (p < 4) && decide (0 ≤ o)))) then (if Maps.has D (mkey g t p) || decide (Maps.size D < 32) then 0 else 8) else 1

/-- state.apply of a right entry -/
noncomputable def applyR (M : StM) (e : Ent) (stripe at_ : Int) : StM × DoneM × Int :=
  if e.kind = 1 then
    if hasT M.top e.topic then (M, noDone, 9)
    else if 8 ≤ M.top.length then (M, noDone, 8)
    else (⟨insT (e.topic, List.replicate e.parts.toNat (newPart e.first)) M.top, M.grp⟩, noDone, 0)
  else if e.kind = 2 then
    if hasT M.top e.topic then (⟨delT e.topic M.top, lessOf e.topic M.grp⟩, noDone, 0) else (M, noDone, 10)
  else match partT M.top e.topic e.part with
    | none => (M, noDone, 10)
    | some P =>
      if e.kind = 4 then
        (if setBad M.grp e.group e.topic e.part e.off = 0 then (⟨M.top, M.grp.put (mkey e.group e.topic e.part) (.lit (.int .i64 e.off))⟩, noDone, 0) else (M, noDone, setBad M.grp e.group e.topic e.part e.off))
      else if e.kind = 5 then
        (if trimBad P.log e.off = 0 then (⟨setT M.top e.topic e.part ⟨trimLog P.log e.off, P.ded⟩, M.grp⟩, noDone, 0) else (M, noDone, trimBad P.log e.off))
      else
        (⟨setT M.top e.topic e.part (prodM P e.bat stripe at_).1, M.grp⟩, (prodM P e.bat stripe at_).2.1, (prodM P e.bat stripe at_).2.2)
/-- state.Apply -/
noncomputable def applyM (M : StM) (e : Ent) (stripe at_ : Int) : StM × DoneM × Int :=
  if rightE e = true ∧ 0 ≤ stripe ∧ 0 ≤ at_ then applyR M e stripe at_ else (M, noDone, 1)

/-! ### plain laws -/
theorem LogM.Ok.mono {N N' : Nat} {L : LogM} (h : L.Ok N) (hN : N ≤ N') : L.Ok N' := ⟨h.start0, h.le, h.big, h.each, h.chain, Nat.le_trans h.few hN⟩
theorem addLog_ok {N : Nat} {L : LogM} (h : L.Ok N) {n time stripe ent : Int} (hb : addBad L n time stripe ent = 0) : (addLog L n time stripe ent).Ok (N + 1) := by
  unfold addBad at hb
  split at hb
  · cases hb
  · rename_i ho
    split at hb
    · cases hb
    · rename_i hx
      have ho : addOk n time stripe ent = true := by simpa using ho
      unfold addOk at ho
      simp only [Bool.and_eq_true, decide_eq_true_eq] at ho
      obtain ⟨⟨⟨⟨⟨h1, h2⟩, h3⟩, h4⟩, h5⟩, h6⟩ := ho
      obtain ⟨a1, a2, a3, a4, a5, a6⟩ := h
      refine ⟨a1, by show L.start ≤ L.next + n; omega, by show L.next + n ≤ maxI; omega, ?_, ?_, by simp [addLog]; omega⟩
      · intro x hx
        rcases List.mem_append.1 hx with hx | hx
        · obtain ⟨b1, b2, b3, b4⟩ := a4 x hx
          exact ⟨b1, b2, b3, by show _ ≤ L.next + n; omega⟩
        · rw [List.mem_singleton] at hx
          subst hx
          exact ⟨by show 0 ≤ L.next; omega, h1, h2, Int.le_refl _⟩
      · refine List.pairwise_append.2 ⟨a5, List.pairwise_singleton _ _, fun a ha b hb => ?_⟩
        rw [List.mem_singleton] at hb
        subst hb
        exact (a4 a ha).2.2.2
theorem trimLog_ok {N : Nat} {L : LogM} (h : L.Ok N) {off : Int} (hb : trimBad L off = 0) : (trimLog L off).Ok N := by
  unfold trimBad at hb
  split at hb
  · rename_i ho
    unfold trimLog
    split
    · rename_i hs
      obtain ⟨a1, a2, a3, a4, a5, a6⟩ := h
      refine ⟨ho.1, ho.2, a3, fun x hx => a4 x (List.mem_of_mem_drop hx), a5.sublist (List.drop_sublist _ _), ?_⟩
      simp only [List.length_drop]
      omega
    · exact h
  · cases hb
theorem trimLog_next (L : LogM) (off : Int) : (trimLog L off).next = L.next := by unfold trimLog; split <;> rfl
end Go.Proofs.YtjodiieeocaipaaGreatDoor
