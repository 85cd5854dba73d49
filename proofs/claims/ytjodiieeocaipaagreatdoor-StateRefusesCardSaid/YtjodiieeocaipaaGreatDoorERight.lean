/-
  entry: Right.
-/
import Derived.Test.YtjodiieeocaipaaGreatDoorESame
import Derived.Laws.StructEq
namespace Go.Proofs.YtjodiieeocaipaaGreatDoor
open Go.RowKit
attribute [local go_sem ↓] ldB_eq stB_eq ldE_eq stE_eq

theorem part_int (cs : Array Value) (i : Nat) (z : Int) (w : World) (h : cs[i]? = some (.int .i64 z)) : (part 3 cs i).run Tryz.prog w = .ok (.int .i64 z) w := by
  have ha : (isAgg 3).run Tryz.prog w = .ok false w := by simp [isAgg, run_underlying Tryz.underlying3]
  simp only [part, Sem.run_bind, ha, Result.andThen_ok]
  simp [h]
theorem part_str (cs : Array Value) (i : Nat) (z : ByteArray) (w : World) (h : cs[i]? = some (.string z)) : (part 9 cs i).run Tryz.prog w = .ok (.string z) w := by
  have ha : (isAgg 9).run Tryz.prog w = .ok false w := by simp [isAgg, run_underlying Tryz.underlying9]
  simp only [part, Sem.run_bind, ha, Result.andThen_ok]
  simp [h]
theorem eqFields_cons {P : Program} {w : World} {d : Nat} {xs ys : Array Value} {f : Field} {fs : List Field} (hn : f.name ≠ "_") {a b : Value} {r : Bool} (ha : (part f.type xs f.offset).run P w = .ok a w) (hb : (part f.type ys f.offset).run P w = .ok b w)
    (hr : (Op.equalIn d f.type a b).run P w = .ok r w) {q : Bool} (hq : (Op.eqFields d xs ys fs).run P w = .ok q w) : (Op.eqFields d xs ys (f :: fs)).run P w = .ok (r && q) w := by
  unfold Op.eqFields
  rw [if_pos hn]
  simp only [Sem.run_bind, ha, hb, hr, Result.andThen_ok, Sem.run_ite, Sem.run_pure]
  cases r
  · simp
  · simp [hq]
theorem eqFields_nil {P : Program} {w : World} {d : Nat} {xs ys : Array Value} : (Op.eqFields d xs ys []).run P w = .ok true w := rfl
theorem fields_rest : Tryz.prog.underlying 109 = some (.struct (Tryz.prog.fieldsOf 109)) := by
  unfold Program.fieldsOf
  rw [Tryz.underlying109]
theorem held_rest : Tryz.prog.stoodInHeld 109 = false := by kernel_rfl
def rC (e : Ent) : Array Value := #[.int .i64 e.kind, .string e.topic, .string e.group, .int .i64 e.part, .int .i64 e.parts, .int .i64 e.first, .int .i64 e.off]
set_option maxRecDepth 100000 in
theorem eq_rest (a b : Ent) (w : World) : (Op.equalIn 10000 109 (.agg (rC a)) (.agg (rC b))).run Tryz.prog w = .ok (sameR a b) w := by
  rw [run_equalIn_struct w 9999 109 (rC a) (rC b) fields_rest held_rest]
  unfold Program.fieldsOf
  rw [Tryz.underlying109]
  have num : ∀ (x y : Int), (Op.equalIn 9999 3 (.int .i64 x) (.int .i64 y)).run Tryz.prog w = .ok (x == y) w := fun x y => run_equalIn_int w 9998 3 .i64 .i64 x y Tryz.underlying3
  have str : ∀ (x y : ByteArray), (Op.equalIn 9999 9 (.string x) (.string y)).run Tryz.prog w = .ok (x.toList == y.toList) w := fun x y => run_equalIn_string w 9998 9 x y Tryz.underlying9
  have h7 := eqFields_cons (d := 9999) (fs := []) (f := ⟨"offset", 3, 6, false, "", "", 64⟩) (by decide) (part_int (rC a) 6 a.off w rfl) (part_int (rC b) 6 b.off w rfl) (num _ _) eqFields_nil
  have h6 := eqFields_cons (f := ⟨"first", 3, 5, false, "", "", 56⟩) (by decide) (part_int (rC a) 5 a.first w rfl) (part_int (rC b) 5 b.first w rfl) (num _ _) h7
  have h5 := eqFields_cons (f := ⟨"parts", 3, 4, false, "", "", 48⟩) (by decide) (part_int (rC a) 4 a.parts w rfl) (part_int (rC b) 4 b.parts w rfl) (num _ _) h6
  have h4 := eqFields_cons (f := ⟨"part", 3, 3, false, "", "", 40⟩) (by decide) (part_int (rC a) 3 a.part w rfl) (part_int (rC b) 3 b.part w rfl) (num _ _) h5
  have h3 := eqFields_cons (f := ⟨"group", 9, 2, false, "", "", 24⟩) (by decide) (part_str (rC a) 2 a.group w rfl) (part_str (rC b) 2 b.group w rfl) (str _ _) h4
  have h2 := eqFields_cons (f := ⟨"topic", 9, 1, false, "", "", 8⟩) (by decide) (part_str (rC a) 1 a.topic w rfl) (part_str (rC b) 1 b.topic w rfl) (str _ _) h3
  have h1 := eqFields_cons (f := ⟨"kind", 3, 0, false, "", "", 0⟩) (by decide) (part_int (rC a) 0 a.kind w rfl) (part_int (rC b) 0 b.kind w rfl) (num _ _) h2
  refine Eq.trans h1 ?_
  congr 1
  unfold sameR
  rw [str_eq, str_eq]
  simp [Bool.and_assoc, BEq.beq]
theorem flds_some (k : Int) : ∀ f ∈ fldsE k, f ∈ someF := by
  intro f hf
  have n1 : nameF ∈ someF := .head _
  have b1 : sF 1 600 ∈ someF := .tail _ (.head _)
  have p1 : nF 1 1 4 ∈ someF := .tail _ (.tail _ (.head _))
  have q1 : partF ∈ someF := .tail _ (.tail _ (.tail _ (.head _)))
  have o1 : offF ∈ someF := .tail _ (.tail _ (.tail _ (.tail _ (.head _))))
  unfold fldsE at hf
  split at hf
  · simp only [List.mem_cons, List.not_mem_nil, or_false] at hf
    rcases hf with rfl | rfl | rfl <;> assumption
  · split at hf
    · simp only [List.mem_cons, List.not_mem_nil, or_false] at hf
      subst hf
      assumption
    · split at hf
      · simp only [List.mem_cons, List.not_mem_nil, or_false] at hf
        rcases hf with rfl | rfl | rfl <;> assumption
      · split at hf
        · simp only [List.mem_cons, List.not_mem_nil, or_false] at hf
          rcases hf with rfl | rfl | rfl | rfl <;> assumption
        · split at hf
          · simp only [List.mem_cons, List.not_mem_nil, or_false] at hf
            rcases hf with rfl | rfl | rfl <;> assumption
          · cases hf
theorem vals_kind {e : Ent} (h : valsE e ≠ []) : 1 ≤ e.kind ∧ e.kind ≤ 5 := by
  by_cases hk : 1 ≤ e.kind ∧ e.kind ≤ 5
  · exact hk
  · refine absurd ?_ h
    unfold valsE
    rw [if_neg (by omega), if_neg (by omega), if_neg (by omega), if_neg (by omega), if_neg (by omega)]
theorem topic_le {e : Ent} (hk : 1 ≤ e.kind ∧ e.kind ≤ 5) (h1 : okAll (fldsE e.kind) (valsE e) = true) : e.topic.size ≤ 24 ∧ (e.kind = 4 → e.group.size ≤ 24) := by
  rcases kind_cases hk with k | k | k | k | k
  · have e1 : valsE e = [sV e.topic, nV e.parts, nV e.first] := by unfold valsE; rw [k]; rfl
    rw [k, e1] at h1
    obtain ⟨_, a2, _⟩ := str_le (f := nameF) (fs := [nF 1 1 4, offF]) rfl h1
    have a2 : (e.topic.size : Int) ≤ 24 := a2
    exact ⟨by omega, by omega⟩
  · have e1 : valsE e = [sV e.topic] := by unfold valsE; rw [k]; rfl
    rw [k, e1] at h1
    obtain ⟨_, a2, _⟩ := str_le (f := nameF) (fs := []) rfl h1
    have a2 : (e.topic.size : Int) ≤ 24 := a2
    exact ⟨by omega, by omega⟩
  · have e1 : valsE e = [sV e.topic, nV e.part, sV (batS e.bat)] := by unfold valsE; rw [k]; rfl
    rw [k, e1] at h1
    obtain ⟨_, a2, _⟩ := str_le (f := nameF) (fs := [partF, sF 1 600]) rfl h1
    have a2 : (e.topic.size : Int) ≤ 24 := a2
    exact ⟨by omega, by omega⟩
  · have e1 : valsE e = [sV e.group, sV e.topic, nV e.part, nV e.off] := by unfold valsE; rw [k]; rfl
    rw [k, e1] at h1
    obtain ⟨_, a2, h1⟩ := str_le (f := nameF) (fs := [nameF, partF, offF]) rfl h1
    have a2 : (e.group.size : Int) ≤ 24 := a2
    obtain ⟨_, a3, h1⟩ := str_le rfl h1
    have a3 : (e.topic.size : Int) ≤ 24 := a3
    exact ⟨by omega, by omega⟩
  · have e1 : valsE e = [sV e.topic, nV e.part, nV e.off] := by unfold valsE; rw [k]; rfl
    rw [k, e1] at h1
    obtain ⟨_, a2, _⟩ := str_le (f := nameF) (fs := [partF, offF]) rfl h1
    have a2 : (e.topic.size : Int) ≤ 24 := a2
    exact ⟨by omega, by omega⟩
theorem PutR.neq {fs : List Fld} {vs : List Val} {B : Nat} {w' : World} {A : Option Addr} {M c : Nat} {v : Value} (h : PutR fs vs B w' A M c v) (w : World) : (binOp .neq 27 v .nilIface).run Tryz.prog w = .ok (.bool (!okAll fs vs)) w := by
  rcases h with ⟨h1, rfl, _⟩ | ⟨h1, _, k, hk⟩
  · rw [h1]; kernel_rfl
  · rw [h1]; exact hk.ne w
theorem PutR.guardN {fs : List Fld} {vs : List Val} {B : Nat} {w' : World} {A : Option Addr} {M c : Nat} {v : Value} (h : PutR fs vs B w' A M c v) (x : Tmp) (w : World) : (eqGuard .neq 27 (.tmp x) (.const .nilIface) v .nilIface).run Tryz.prog w = .ok () w := by
  rcases h with ⟨h1, rfl, _⟩ | ⟨h1, _, k, hk⟩
  · kernel_rfl
  · exact hk.guardN x w
theorem name_at (s : ByteArray) (b : Bool) (hs : s.size ≤ 9223372036854775807) (hb : nameOk s = b) (w : World) : Calls Tryz.prog 47 #[.string s] w fun e w' => e = .returned (.bool b) ∧ Below w.heap.size w w' := by
  subst hb
  exact name_any s hs w
end Go.Proofs.YtjodiieeocaipaaGreatDoor
