import Derived.Test.YtkdlofgfkfhofaaGreatDoorP27
import Derived.Laws.StructEq
/-
  entry: same, restOf.
-/
namespace Go.Proofs.YtkdlofgfkfhofaaGreatDoor
open Go.RowKit
attribute [local go_sem ↓] ldB_eq stB_eq ldE_eq stE_eq

theorem beq_no {a b : Int} (h : a ≠ b) : (a == b) = false := by simp [h]
set_option maxRecDepth 100000 in
set_option maxHeartbeats 2000000 in
theorem same_any (a b : Bat) (A A' : Option Addr) (n c n' c' : Nat) (r : Bool) (hr : sameB a b = r) (w : World) (h : RdT w A n c a.vals) (h' : RdT w A' n' c' b.vals) :
    Calls Tryz.prog 134 #[.agg #[.int .i64 a.time, .int .i64 a.prod, .int .i64 a.seq, .slice A n c], .agg #[.int .i64 b.time, .int .i64 b.prod, .int .i64 b.seq, .slice A' n' c']] w fun e w' => e = .returned (.bool r) ∧ Below w.heap.size w w' := by
  obtain ⟨t1, p1, s1, l1⟩ := a
  obtain ⟨t2, p2, s2, l2⟩ := b
  dsimp only at h h' ⊢
  have hr0 : (decide (t1 = t2) && decide (p1 = p2) && decide (s1 = s2) && decide (l1 = l2)) = r := hr
  clear hr
  have hb2 := below_two w (.cells #[.int .i64 t1, .int .i64 p1, .int .i64 s1, .slice A n c] 30) (.cells #[.int .i64 t2, .int .i64 p2, .int .i64 s2, .slice A' n' c'] 30)
  have hE := Lib.hid (equalT_any A n c l1 A' n' c' l2 _ (h.ext hb2) (h'.ext hb2))
  have HB := Lib.hid hb2
  clear h h' hb2
  have h4 : ((t1 == t2) = false ∧ r = false) ∨ (t1 = t2 ∧ (p1 == p2) = false ∧ r = false) ∨ (t1 = t2 ∧ p1 = p2 ∧ (s1 == s2) = false ∧ r = false) ∨ (t1 = t2 ∧ p1 = p2 ∧ s1 = s2 ∧ decide (l1 = l2) = r) := by
    by_cases ht : t1 = t2
    · by_cases hp : p1 = p2
      · by_cases hs : s1 = s2
        · exact .inr (.inr (.inr ⟨ht, hp, hs, by simpa [ht, hp, hs] using hr0⟩))
        · exact .inr (.inr (.inl ⟨ht, hp, beq_no hs, by rw [← hr0]; simp [hs]⟩))
      · exact .inr (.inl ⟨ht, beq_no hp, by rw [← hr0]; simp [hp]⟩)
    · exact .inl ⟨beq_no ht, by rw [← hr0]; simp [ht]⟩
  clear hr0
  rcases h4 with ⟨hn, rfl⟩ | ⟨rfl, hn, rfl⟩ | ⟨rfl, rfl, hn, rfl⟩ | ⟨rfl, rfl, rfl, hd⟩
  case' inr.inr.inr =>
    have hEr := Lib.hid (hE.out r hd)
    clear hd
  all_goals
    go_enter Tryz.func134, Tryz.ntmps134
    go_wp2_with (first | (go_at_call 188; (with_reducible refine hEr.out.mono ?_); rintro e w3 ⟨rfl, hb3⟩; have HB3 := Lib.hid hb3; clear hb3) | fail)
    go_ret
    exact ⟨rfl, by first | exact HB.out.trans (below_le HB.out.size HB3.out) | exact HB.out⟩
theorem size_r : (Tryz.prog.info? 241).map (·.size) = some 7 := by kernel_rfl
def stR (v u : Value) : Sem Unit := Instr.storeAt 241 v u
theorem stR_eq (v u : Value) : Instr.storeAt 241 v u = stR v u := rfl
theorem stR_newAt (w : World) (G : Nat) (hG : G = w.heap.size) (k : Int) (t g : ByteArray) (part parts first off : Int) (old : Array Value) (ho : old.size = 7) :
    (stR (.pointer (some ⟨G, 0, none⟩)) (.agg #[.int .i64 k, .string t, .string g, .int .i64 part, .int .i64 parts, .int .i64 first, .int .i64 off])).run Tryz.prog (w.alloc (.cells old 241)) = .ok () (w.alloc (.cells #[.int .i64 k, .string t, .string g, .int .i64 part, .int .i64 parts, .int .i64 first, .int .i64 off] 241)) := by
  subst hG
  exact run_storeAt_new w 241 _ _ size_r ho (all_oneCell_toArray (one_all rfl))
attribute [local go_sem ↓] stR_eq
set_option maxRecDepth 100000 in
set_option maxHeartbeats 2000000 in
theorem restOf_any (k : Int) (t g : ByteArray) (part parts first off time prod seq : Int) (A : Option Addr) (n c : Nat) (w : World) :
    Calls Tryz.prog 133 #[.agg #[.int .i64 k, .string t, .string g, .int .i64 part, .int .i64 parts, .int .i64 first, .int .i64 off, .int .i64 time, .int .i64 prod, .int .i64 seq, .slice A n c]] w fun e w' => e = .returned (.agg #[.int .i64 k, .string t, .string g, .int .i64 part, .int .i64 parts, .int .i64 first, .int .i64 off]) ∧ Below w.heap.size w w' := by
  have hst := stR_newAt (w.alloc (.cells #[.int .i64 k, .string t, .string g, .int .i64 part, .int .i64 parts, .int .i64 first, .int .i64 off, .int .i64 time, .int .i64 prod, .int .i64 seq, .slice A n c] 121)) (w.heap.size + 1) (by simp) k t g part parts first off #[.int .i64 0, .string ⟨#[]⟩, .string ⟨#[]⟩, .int .i64 0, .int .i64 0, .int .i64 0, .int .i64 0] rfl
  have hb2 := below_two w (.cells #[.int .i64 k, .string t, .string g, .int .i64 part, .int .i64 parts, .int .i64 first, .int .i64 off, .int .i64 time, .int .i64 prod, .int .i64 seq, .slice A n c] 121) (.cells #[.int .i64 k, .string t, .string g, .int .i64 part, .int .i64 parts, .int .i64 first, .int .i64 off] 241)
  have hk := Lib.hid (Bk.made_at (w.alloc (.cells #[.int .i64 k, .string t, .string g, .int .i64 part, .int .i64 parts, .int .i64 first, .int .i64 off, .int .i64 time, .int .i64 prod, .int .i64 seq, .slice A n c] 121)) (w.heap.size + 1) 241 #[.int .i64 k, .string t, .string g, .int .i64 part, .int .i64 parts, .int .i64 first, .int .i64 off] (by simp))
  have HB := Lib.hid hb2
  clear hb2
  go_enter Tryz.func133, Tryz.ntmps133
  go_wp2
  exact bodyPost_ret (results_cell_row rfl _ _ (w.heap.size + 1) _ _ (0, 0) _ rfl hk.out Tryz.underlying241 rfl size_r) rfl ⟨rfl, HB.out⟩
end Go.Proofs.YtkdlofgfkfhofaaGreatDoor

/-
  entry: Right.
-/
namespace Go.Proofs.YtkdlofgfkfhofaaGreatDoor
open Go.RowKit
attribute [local go_sem ↓] ldB_eq stB_eq ldE_eq stE_eq

theorem part_int (cs : Array Value) (i : Nat) (z : Int) (w : World) (h : cs[i]? = some (.int .i64 z)) : (part 3 cs i).run Tryz.prog w = .ok (.int .i64 z) w := by
  have ha : (isAgg 3).run Tryz.prog w = .ok false w := by simp [isAgg, run_underlying Tryz.underlying3]
  simp only [part, Sem.run_bind, ha, Result.andThen_ok]
  simp [h]
theorem part_str (cs : Array Value) (i : Nat) (z : ByteArray) (w : World) (h : cs[i]? = some (.string z)) : (part 9 cs i).run Tryz.prog w = .ok (.string z) w := by
  have ha : (isAgg 9).run Tryz.prog w = .ok false w := by simp [isAgg, run_underlying Tryz.underlying9]
  simp only [part, Sem.run_bind, ha, Result.andThen_ok]
  simp [h]
theorem eqFields_cons {P : Program} {w : World} {d : Nat} {xs ys : Array Value} {f : Field} {fs : List Field} (hn : f.name ≠ "_") {a b : Value} {r : Bool} (ha : (part f.type xs f.offset).run P w = .ok a w) (hb : (part f.type ys f.offset).run P w = .ok b w)
    (hr : (Op.equalIn d f.type a b).run P w = .ok r w) {q : Bool} (hq : (Op.eqFields d xs ys fs).run P w = .ok q w) : (Op.eqFields d xs ys (f :: fs)).run P w = .ok (r && q) w := by
  unfold Op.eqFields
  rw [if_pos hn]
  simp only [Sem.run_bind, ha, hb, hr, Result.andThen_ok, Sem.run_ite, Sem.run_pure]
  cases r
  · simp
  · simp [hq]
theorem eqFields_nil {P : Program} {w : World} {d : Nat} {xs ys : Array Value} : (Op.eqFields d xs ys []).run P w = .ok true w := rfl
theorem fields_rest : Tryz.prog.underlying 241 = some (.struct (Tryz.prog.fieldsOf 241)) := by
  unfold Program.fieldsOf
  rw [Tryz.underlying241]
theorem held_rest : Tryz.prog.stoodInHeld 241 = false := by kernel_rfl
def rC (e : Ent) : Array Value := #[.int .i64 e.kind, .string e.topic, .string e.group, .int .i64 e.part, .int .i64 e.parts, .int .i64 e.first, .int .i64 e.off]
set_option maxRecDepth 100000 in
theorem eq_rest (a b : Ent) (w : World) : (Op.equalIn 10000 241 (.agg (rC a)) (.agg (rC b))).run Tryz.prog w = .ok (sameR a b) w := by
  rw [run_equalIn_struct w 9999 241 (rC a) (rC b) fields_rest held_rest]
  unfold Program.fieldsOf
  rw [Tryz.underlying241]
  have num : ∀ (x y : Int), (Op.equalIn 9999 3 (.int .i64 x) (.int .i64 y)).run Tryz.prog w = .ok (x == y) w := fun x y => run_equalIn_int w 9998 3 .i64 .i64 x y Tryz.underlying3
  have str : ∀ (x y : ByteArray), (Op.equalIn 9999 9 (.string x) (.string y)).run Tryz.prog w = .ok (x.toList == y.toList) w := fun x y => run_equalIn_string w 9998 9 x y Tryz.underlying9
  have h7 := eqFields_cons (d := 9999) (fs := []) (f := ⟨"offset", 3, 6, false, "", "", 64⟩) (by decide) (part_int (rC a) 6 a.off w rfl) (part_int (rC b) 6 b.off w rfl) (num _ _) eqFields_nil
  have h6 := eqFields_cons (f := ⟨"first", 3, 5, false, "", "", 56⟩) (by decide) (part_int (rC a) 5 a.first w rfl) (part_int (rC b) 5 b.first w rfl) (num _ _) h7
  have h5 := eqFields_cons (f := ⟨"parts", 3, 4, false, "", "", 48⟩) (by decide) (part_int (rC a) 4 a.parts w rfl) (part_int (rC b) 4 b.parts w rfl) (num _ _) h6
  have h4 := eqFields_cons (f := ⟨"part", 3, 3, false, "", "", 40⟩) (by decide) (part_int (rC a) 3 a.part w rfl) (part_int (rC b) 3 b.part w rfl) (num _ _) h5
  have h3 := eqFields_cons (f := ⟨"group", 9, 2, false, "", "", 24⟩) (by decide) (part_str (rC a) 2 a.group w rfl) (part_str (rC b) 2 b.group w rfl) (str _ _) h4
  have h2 := eqFields_cons (f := ⟨"topic", 9, 1, false, "", "", 8⟩) (by decide) (part_str (rC a) 1 a.topic w rfl) (part_str (rC b) 1 b.topic w rfl) (str _ _) h3
  have h1 := eqFields_cons (f := ⟨"kind", 3, 0, false, "", "", 0⟩) (by decide) (part_int (rC a) 0 a.kind w rfl) (part_int (rC b) 0 b.kind w rfl) (num _ _) h2
  refine Eq.trans h1 ?_
  congr 1
  unfold sameR
  rw [str_eq, str_eq]
  simp [Bool.and_assoc, BEq.beq]
theorem flds_some (k : Int) : ∀ f ∈ fldsE k, f ∈ someF := by
  intro f hf
  have n1 : nameF ∈ someF := .head _
  have b1 : sF 1 600 ∈ someF := .tail _ (.head _)
  have p1 : nF 1 1 4 ∈ someF := .tail _ (.tail _ (.head _))
  have q1 : partF ∈ someF := .tail _ (.tail _ (.tail _ (.head _)))
  have o1 : offF ∈ someF := .tail _ (.tail _ (.tail _ (.tail _ (.head _))))
  unfold fldsE at hf
  split at hf
  · simp only [List.mem_cons, List.not_mem_nil, or_false] at hf
    rcases hf with rfl | rfl | rfl <;> assumption
  · split at hf
    · simp only [List.mem_cons, List.not_mem_nil, or_false] at hf
      subst hf
      assumption
    · split at hf
      · simp only [List.mem_cons, List.not_mem_nil, or_false] at hf
        rcases hf with rfl | rfl | rfl <;> assumption
      · split at hf
        · simp only [List.mem_cons, List.not_mem_nil, or_false] at hf
          rcases hf with rfl | rfl | rfl | rfl <;> assumption
        · split at hf
          · simp only [List.mem_cons, List.not_mem_nil, or_false] at hf
            rcases hf with rfl | rfl | rfl <;> assumption
          · cases hf
theorem vals_kind {e : Ent} (h : valsE e ≠ []) : 1 ≤ e.kind ∧ e.kind ≤ 5 := by
  by_cases hk : 1 ≤ e.kind ∧ e.kind ≤ 5
  · exact hk
  · refine absurd ?_ h
    unfold valsE
    rw [if_neg (by omega), if_neg (by omega), if_neg (by omega), if_neg (by omega), if_neg (by omega)]
theorem topic_le {e : Ent} (hk : 1 ≤ e.kind ∧ e.kind ≤ 5) (h1 : okAll (fldsE e.kind) (valsE e) = true) : e.topic.size ≤ 24 ∧ (e.kind = 4 → e.group.size ≤ 24) := by
  rcases kind_cases hk with k | k | k | k | k
  · have e1 : valsE e = [sV e.topic, nV e.parts, nV e.first] := by unfold valsE; rw [k]; rfl
    rw [k, e1] at h1
    obtain ⟨_, a2, _⟩ := str_le (f := nameF) (fs := [nF 1 1 4, offF]) rfl h1
    have a2 : (e.topic.size : Int) ≤ 24 := a2
    exact ⟨by omega, by omega⟩
  · have e1 : valsE e = [sV e.topic] := by unfold valsE; rw [k]; rfl
    rw [k, e1] at h1
    obtain ⟨_, a2, _⟩ := str_le (f := nameF) (fs := []) rfl h1
    have a2 : (e.topic.size : Int) ≤ 24 := a2
    exact ⟨by omega, by omega⟩
  · have e1 : valsE e = [sV e.topic, nV e.part, sV (batS e.bat)] := by unfold valsE; rw [k]; rfl
    rw [k, e1] at h1
    obtain ⟨_, a2, _⟩ := str_le (f := nameF) (fs := [partF, sF 1 600]) rfl h1
    have a2 : (e.topic.size : Int) ≤ 24 := a2
    exact ⟨by omega, by omega⟩
  · have e1 : valsE e = [sV e.group, sV e.topic, nV e.part, nV e.off] := by unfold valsE; rw [k]; rfl
    rw [k, e1] at h1
    obtain ⟨_, a2, h1⟩ := str_le (f := nameF) (fs := [nameF, partF, offF]) rfl h1
    have a2 : (e.group.size : Int) ≤ 24 := a2
    obtain ⟨_, a3, h1⟩ := str_le rfl h1
    have a3 : (e.topic.size : Int) ≤ 24 := a3
    exact ⟨by omega, by omega⟩
  · have e1 : valsE e = [sV e.topic, nV e.part, nV e.off] := by unfold valsE; rw [k]; rfl
    rw [k, e1] at h1
    obtain ⟨_, a2, _⟩ := str_le (f := nameF) (fs := [partF, offF]) rfl h1
    have a2 : (e.topic.size : Int) ≤ 24 := a2
    exact ⟨by omega, by omega⟩
theorem PutR.neq {fs : List Fld} {vs : List Val} {B : Nat} {w' : World} {A : Option Addr} {M c : Nat} {v : Value} (h : PutR fs vs B w' A M c v) (w : World) : (binOp .neq 52 v .nilIface).run Tryz.prog w = .ok (.bool (!okAll fs vs)) w := by
  rcases h with ⟨h1, rfl, _⟩ | ⟨h1, _, k, hk⟩
  · rw [h1]; kernel_rfl
  · rw [h1]; exact hk.ne w
theorem PutR.guardN {fs : List Fld} {vs : List Val} {B : Nat} {w' : World} {A : Option Addr} {M c : Nat} {v : Value} (h : PutR fs vs B w' A M c v) (x : Tmp) (w : World) : (eqGuard .neq 52 (.tmp x) (.const .nilIface) v .nilIface).run Tryz.prog w = .ok () w := by
  rcases h with ⟨h1, rfl, _⟩ | ⟨h1, _, k, hk⟩
  · kernel_rfl
  · exact hk.guardN x w
theorem name_at (s : ByteArray) (b : Bool) (hs : s.size ≤ 9223372036854775807) (hb : nameOk s = b) (w : World) : Calls Tryz.prog 132 #[.string s] w fun e w' => e = .returned (.bool b) ∧ Below w.heap.size w w' := by
  subst hb
  exact name_any s hs w
end Go.Proofs.YtkdlofgfkfhofaaGreatDoor

/-
  entry: Right, the walk.
-/
namespace Go.Proofs.YtkdlofgfkfhofaaGreatDoor
open Go.RowKit
attribute [local go_sem ↓] ldB_eq stB_eq ldE_eq stE_eq

theorem ldB_of_ent {w : World} {G : Nat} {k : Int} {t g : ByteArray} {part parts first off time prod seq : Int} {A : Option Addr} {n c : Nat} (h : Bk w G 121 #[.int .i64 k, .string t, .string g, .int .i64 part, .int .i64 parts, .int .i64 first, .int .i64 off, .int .i64 time, .int .i64 prod, .int .i64 seq, .slice A n c]) :
    (ldB (.pointer (some ⟨G, 7, none⟩))).run Tryz.prog w = .ok (.agg #[.int .i64 time, .int .i64 prod, .int .i64 seq, .slice A n c]) w :=
  ldB_at (b := ⟨time, prod, seq, []⟩) (fun j u hu => by
    rw [h.cell]
    match j, hu with
    | 0, hu => exact hu
    | 1, hu => exact hu
    | 2, hu => exact hu
    | 3, hu => exact hu
    | j + 4, hu => exact absurd (List.getElem?_eq_some_iff.1 hu).1 (by simp [Bat.cells]))
theorem rightE_is {e : Ent} (h1 : okAll (fldsE e.kind) (valsE e) = true) (h2 : valsE e ≠ []) : rightE e = ((badE e.kind (valsE e)).isNone && (namesE e && (sameR (madeE e.kind (valsE e)) e && sameB (madeE e.kind (valsE e)).bat e.bat))) := by
  unfold rightE
  have h3 : (valsE e).isEmpty = false := by cases hv : valsE e with
    | nil => exact absurd hv h2
    | cons a l => rfl
  rw [h1, h3]
  simp only [Bool.not_false, Bool.true_and]
set_option maxRecDepth 100000 in
set_option maxHeartbeats 4000000 in
theorem eRight_any (e : Ent) (A : Option Addr) (n c : Nat) (w : World) (hr : RdT w A n c e.bat.vals) (r : Bool) (hre : rightE e = r) :
    Calls Tryz.prog 81 #[.agg #[.int .i64 e.kind, .string e.topic, .string e.group, .int .i64 e.part, .int .i64 e.parts, .int .i64 e.first, .int .i64 e.off, .int .i64 e.bat.time, .int .i64 e.bat.prod, .int .i64 e.bat.seq, .slice A n c]] w fun er w' => er = .returned (.bool r) ∧ Below w.heap.size w w' := by
  have hbn := below_new w (.cells #[.int .i64 e.kind, .string e.topic, .string e.group, .int .i64 e.part, .int .i64 e.parts, .int .i64 e.first, .int .i64 e.off, .int .i64 e.bat.time, .int .i64 e.bat.prod, .int .i64 e.bat.seq, .slice A n c] 121)
  have hbk := Bk.made w 121 #[.int .i64 e.kind, .string e.topic, .string e.group, .int .i64 e.part, .int .i64 e.parts, .int .i64 e.first, .int .i64 e.off, .int .i64 e.bat.time, .int .i64 e.bat.prod, .int .i64 e.bat.seq, .slice A n c]
  have hld := ldE_bk hbk
  have HBK := Lib.hid hbk
  have HR := Lib.hid hr
  have Hre := Lib.hid hre
  have HB0 := Lib.hid hbn
  clear hbn hbk hr hre
  go_enter Tryz.func81, Tryz.ntmps81
  go_wp2_with fail
  refine calls_cut (fun w' => Bk w' w.heap.size 121 #[.int .i64 e.kind, .string e.topic, .string e.group, .int .i64 e.part, .int .i64 e.parts, .int .i64 e.first, .int .i64 e.off, .int .i64 e.bat.time, .int .i64 e.bat.prod, .int .i64 e.bat.seq, .slice A n c] ∧ Below w.heap.size w w') ⟨HBK.out, HB0.out⟩ ?_
  clear hld HBK HB0
  rintro w1 ⟨hk1, hb1⟩
  have HK1 := Lib.hid hk1
  have HB1 := Lib.hid hb1
  refine (values_any e.kind e.topic e.group e.part e.parts e.first e.off e.bat.time e.bat.prod e.bat.seq e.bat.vals A n c w1 w1 w1.heap.size (HR.out.ext hb1) (Below.refl _ _) (Nat.le_refl _)).mono ?_
  rintro er w2 ⟨v2, rfl, hv2, hb2, hs2⟩
  obtain ⟨A2, n2, c2, ms, rfl, hrv, hvs⟩ := hv2
  have hk2 := hk1.ext hb2
  have c0 : w2.cell? ⟨w.heap.size, 0, none⟩ = some (.int .i64 e.kind) := hk2.cell 0
  have HF := Lib.hid (fields_any e.kind w2 w2 w2.heap.size (Below.refl _ _) (Nat.le_refl _))
  have HK2 := Lib.hid hk2
  have HB2 := Lib.hid (hb1.trans (below_le hb1.size hb2))
  have HRv := Lib.hid hrv
  have HVs := Lib.hid hvs
  clear hk1 hb1 hb2 hs2 hk2 hrv hvs HK1 HB1
  go_wp2_with fail
  with_reducible refine HF.out.mono ?_
  rintro er w3 ⟨v3, rfl, hf3, hb3⟩
  obtain ⟨A3, n3, c3, rfl, hrf, hn3, _⟩ := hf3
  have HRv3 := Lib.hid (HRv.out.ext hb3)
  have HK3 := Lib.hid (HK2.out.ext hb3)
  have HB3 := Lib.hid (HB2.out.trans (below_le HB2.out.size hb3))
  have HP := Lib.hid (fput_r A3 n3 c3 (fldsE e.kind) A2 n2 c2 ms w3 (flds_some _) hrf HRv3.out hn3 w3 w3.heap.size (Below.refl _ _) (Nat.le_refl _))
  clear hb3 hrf HF HRv HK2 HB2 c0 hn3
  go_wp2_with fail
  with_reducible refine HP.out.mono ?_
  rintro er w4 ⟨A4, M4, c4, v4, rfl, hp4, hb4⟩
  rw [HVs.out] at hp4
  have hng := hp4.guardN 19
  have hne := hp4.neq
  have HRv4 := Lib.hid (HRv3.out.ext hb4)
  have HK4 := Lib.hid (HK3.out.ext hb4)
  have HB4 := Lib.hid (HB3.out.trans (below_le HB3.out.size hb4))
  clear hb4 HP HRv3 HK3 HB3 hp4
  cases hok : okAll (fldsE e.kind) (valsE e)
  · rw [hok] at hne
    have Hok := Lib.hid hok
    clear hok
    go_wp2_with fail
    go_ret
    refine ⟨ret_bool ?_, HB4.out⟩
    have h := Hre.out
    unfold rightE at h
    rw [Hok.out, Bool.false_and] at h
    exact h
  · rw [hok] at hne
    have Hok := Lib.hid hok
    clear hok
    have hln : Hid (n2 = (valsE e).length) := by
      show n2 = _
      have := HRv4.out.rows.len
      rw [List.length_map] at this
      rw [← HVs.out]
      unfold vsOf
      rw [List.length_map]
      exact this.symm
    by_cases hem : valsE e = []
    · have hz : n2 = 0 := by rw [hln.out, hem]; rfl
      subst hz
      have Hem := Lib.hid hem
      clear hem
      go_wp2_with fail
      go_ret
      refine ⟨ret_bool ?_, HB4.out⟩
      have h := Hre.out
      unfold rightE at h
      rw [Hem.out] at h
      simpa using h
    · have hkind := vals_kind hem
      have hz : 0 < n2 := by rw [hln.out]; exact List.length_pos_iff.2 hem
      have hz2 : ((n2 : Int) == 0) = false := by simp; omega
      have htl := topic_le hkind Hok.out
      have Hem := Lib.hid hem
      have Hkd := Lib.hid hkind
      have Htl := Lib.hid htl
      have hok5 : okAll (fldsE e.kind) (vsOf ms) = true := by rw [HVs.out]; exact Hok.out
      have HM := Lib.hid (made_any e.kind hkind A2 n2 c2 ms w4 HRv4.out hok5)
      have d0 : w4.cell? ⟨w.heap.size, 0, none⟩ = some (.int .i64 e.kind) := HK4.out.cell 0
      clear hem hkind htl hok5 hln
      go_wp2_with fail
      with_reducible refine HM.out.mono ?_
      rintro er w5 ⟨x, A5, n5, c5, v5, rfl, hm5, hb5⟩
      rw [HVs.out] at hm5
      have hst5 := stE_newAt w5 w5.heap.size rfl x.kind x.topic x.group x.part x.parts x.first x.off x.bat.time x.bat.prod x.bat.seq A5 n5 c5 #[.int .i64 0, .string ⟨#[]⟩, .string ⟨#[]⟩, .int .i64 0, .int .i64 0, .int .i64 0, .int .i64 0, .int .i64 0, .int .i64 0, .int .i64 0, .slice none 0 0] rfl
      have hbn5 := below_new w5 (.cells #[.int .i64 x.kind, .string x.topic, .string x.group, .int .i64 x.part, .int .i64 x.parts, .int .i64 x.first, .int .i64 x.off, .int .i64 x.bat.time, .int .i64 x.bat.prod, .int .i64 x.bat.seq, .slice A5 n5 c5] 121)
      have d1 : (w5.alloc (.cells #[.int .i64 x.kind, .string x.topic, .string x.group, .int .i64 x.part, .int .i64 x.parts, .int .i64 x.first, .int .i64 x.off, .int .i64 x.bat.time, .int .i64 x.bat.prod, .int .i64 x.bat.seq, .slice A5 n5 c5] 121)).cell? ⟨w.heap.size, 1, none⟩ = some (.string e.topic) := ((HK4.out.ext hb5).ext hbn5).cell 1
      have Hm5 := Lib.hid hm5
      have HK6 := Lib.hid ((HK4.out.ext hb5).ext hbn5)
      have HX6 := Lib.hid (Bk.made w5 121 #[.int .i64 x.kind, .string x.topic, .string x.group, .int .i64 x.part, .int .i64 x.parts, .int .i64 x.first, .int .i64 x.off, .int .i64 x.bat.time, .int .i64 x.bat.prod, .int .i64 x.bat.seq, .slice A5 n5 c5])
      have HB6 := Lib.hid ((HB4.out.trans (below_le HB4.out.size hb5)).trans (below_le (Nat.le_trans HB4.out.size hb5.size) hbn5))
      have HR6 := Lib.hid (RdT.ext Hm5.out.2.1 hbn5)
      clear hm5 hb5 hbn5 HM d0 HK4 HB4 HRv4
      have hnm : (nameOk e.topic = false ∧ namesE e = false) ∨ (nameOk e.topic = true ∧ (e.kind != 4) = true ∧ namesE e = true) ∨ (nameOk e.topic = true ∧ (e.kind != 4) = false ∧ nameOk e.group = false ∧ e.group.size ≤ 24 ∧ namesE e = false) ∨ (nameOk e.topic = true ∧ (e.kind != 4) = false ∧ nameOk e.group = true ∧ e.group.size ≤ 24 ∧ namesE e = true) := by
        unfold namesE
        cases h1 : nameOk e.topic
        · exact .inl ⟨rfl, rfl⟩
        · by_cases h4 : e.kind = 4
          · cases hg : nameOk e.group
            · exact .inr (.inr (.inl ⟨rfl, by simp [h4], rfl, Htl.out.2 h4, by simp [h4]⟩))
            · exact .inr (.inr (.inr ⟨rfl, by simp [h4], rfl, Htl.out.2 h4, by simp⟩))
          · exact .inr (.inl ⟨rfl, by simp [h4], by simp [h4]⟩)
      have hts : e.topic.size ≤ 9223372036854775807 := by have := Htl.out.1; omega
      obtain ⟨nb, hnb⟩ : ∃ nb, namesE e = nb := ⟨_, rfl⟩
      rw [hnb] at hnm
      have Hnb := Lib.hid hnb
      clear hnb
      go_wp2_with fail
      refine calls_cut (fun w' => Bk w' w.heap.size 121 #[.int .i64 e.kind, .string e.topic, .string e.group, .int .i64 e.part, .int .i64 e.parts, .int .i64 e.first, .int .i64 e.off, .int .i64 e.bat.time, .int .i64 e.bat.prod, .int .i64 e.bat.seq, .slice A n c] ∧ Bk w' w5.heap.size 121 #[.int .i64 x.kind, .string x.topic, .string x.group, .int .i64 x.part, .int .i64 x.parts, .int .i64 x.first, .int .i64 x.off, .int .i64 x.bat.time, .int .i64 x.bat.prod, .int .i64 x.bat.seq, .slice A5 n5 c5] ∧ Below w.heap.size w w' ∧ RdT w' A5 n5 c5 x.bat.vals) ⟨HK6.out, HX6.out, HB6.out, HR6.out⟩ ?_
      clear d1 hst5 HK6 HX6 HB6 HR6
      rintro w6 ⟨hk6, hx6, hb6, hr6⟩
      have HK6 := Lib.hid hk6
      have HX6 := Lib.hid hx6
      have HB6 := Lib.hid hb6
      have HR6 := Lib.hid hr6
      clear hk6 hx6 hb6 hr6
      rcases hnm with ⟨hn1, rfl⟩ | ⟨hn1, hk4, rfl⟩ | ⟨hn1, hk4, hn2, hgs, rfl⟩ | ⟨hn1, hk4, hn2, hgs, rfl⟩
      case' inl =>
        have HN1 := Lib.hid (fun w => name_at e.topic false hts hn1 w)
      case' inr.inl =>
        have HN1 := Lib.hid (fun w => name_at e.topic true hts hn1 w)
      case' inr.inr.inl =>
        have HN1 := Lib.hid (fun w => name_at e.topic true hts hn1 w)
        have HN2 := Lib.hid (fun w => name_at e.group false (by omega) hn2 w)
        clear hn2 hgs
      case' inr.inr.inr =>
        have HN1 := Lib.hid (fun w => name_at e.topic true hts hn1 w)
        have HN2 := Lib.hid (fun w => name_at e.group true (by omega) hn2 w)
        clear hn2 hgs
      all_goals
        clear hn1 hts
        refine (HN1.out w6).mono ?_
        rintro er w7 ⟨rfl, hb7⟩
        have e0 : w7.cell? ⟨w.heap.size, 0, none⟩ = some (.int .i64 e.kind) := (HK6.out.ext hb7).cell 0
        have e2 : w7.cell? ⟨w.heap.size, 2, none⟩ = some (.string e.group) := (HK6.out.ext hb7).cell 2
        have HB7 := Lib.hid hb7
        clear hb7
        go_wp2_with (first | (go_at_call 132; (with_reducible refine (HN2.out _).mono ?_); rintro er w8 ⟨rfl, hb8⟩; have HB8 := Lib.hid (HB7.out.trans (below_le HB7.out.size hb8)); clear hb8 HB7 HN2; have HB7 := HB8; clear HB8) | fail)
        refine wp_cut (fun w' => Below w6.heap.size w6 w') HB7.out ?_
        clear e0 e2 HB7 HN1
        rintro w9 hb9
        have lx : ∀ t : Ext w9, (ldE (.pointer (some ⟨w5.heap.size, 0, none⟩))).run Tryz.prog t.w = .ok (.agg #[.int .i64 x.kind, .string x.topic, .string x.group, .int .i64 x.part, .int .i64 x.parts, .int .i64 x.first, .int .i64 x.off, .int .i64 x.bat.time, .int .i64 x.bat.prod, .int .i64 x.bat.seq, .slice A5 n5 c5]) t.w := fun t => ldE_bk ((HX6.out.ext hb9).ext t.below)
        have le : ∀ t : Ext w9, (ldE (.pointer (some ⟨w.heap.size, 0, none⟩))).run Tryz.prog t.w = .ok (.agg #[.int .i64 e.kind, .string e.topic, .string e.group, .int .i64 e.part, .int .i64 e.parts, .int .i64 e.first, .int .i64 e.off, .int .i64 e.bat.time, .int .i64 e.bat.prod, .int .i64 e.bat.seq, .slice A n c]) t.w := fun t => ldE_bk ((HK6.out.ext hb9).ext t.below)
        have bx : ∀ t : Ext w9, (ldB (.pointer (some ⟨w5.heap.size, 7, none⟩))).run Tryz.prog t.w = .ok (.agg #[.int .i64 x.bat.time, .int .i64 x.bat.prod, .int .i64 x.bat.seq, .slice A5 n5 c5]) t.w := fun t => ldB_of_ent ((HX6.out.ext hb9).ext t.below)
        have be : ∀ t : Ext w9, (ldB (.pointer (some ⟨w.heap.size, 7, none⟩))).run Tryz.prog t.w = .ok (.agg #[.int .i64 e.bat.time, .int .i64 e.bat.prod, .int .i64 e.bat.seq, .slice A n c]) t.w := fun t => ldB_of_ent ((HK6.out.ext hb9).ext t.below)
        have hRx := Lib.hid (fun t : Ext w9 => ext_of (restOf_any x.kind x.topic x.group x.part x.parts x.first x.off x.bat.time x.bat.prod x.bat.seq A5 n5 c5 t.w))
        have hRe := Lib.hid (fun t : Ext w9 => ext_of (restOf_any e.kind e.topic e.group e.part e.parts e.first e.off e.bat.time e.bat.prod e.bat.seq A n c t.w))
        have hSm := Lib.hid (fun t : Ext w9 => ext_of (same_any x.bat e.bat A5 A n5 c5 n c _ rfl t.w (RdT.ext (HR6.out.ext hb9) t.below) (RdT.ext (HR.out.ext (HB6.out.trans (below_le HB6.out.size hb9))) t.below)))
        have heq : ∀ w, (Op.equalIn 10000 241 (.agg #[.int .i64 x.kind, .string x.topic, .string x.group, .int .i64 x.part, .int .i64 x.parts, .int .i64 x.first, .int .i64 x.off]) (.agg #[.int .i64 e.kind, .string e.topic, .string e.group, .int .i64 e.part, .int .i64 e.parts, .int .i64 e.first, .int .i64 e.off])).run Tryz.prog w = .ok (sameR x e) w := fun w => eq_rest x e w
        have HB9 := Lib.hid hb9
        clear hb9 HK6 HX6
        have hre2 := Hre.out
        rw [rightE_is Hok.out Hem.out, Hnb.out, ← Hm5.out.1] at hre2
        have Hre2 := Lib.hid hre2
        clear hre2
        rcases Hm5.out.2.2.2 with ⟨rfl, hbad⟩ | ⟨dd, ee, hbe, hbad⟩
        · have Hbad := Lib.hid hbad
          clear hbad
          cases hsr : sameR x e
          all_goals
            rw [hsr] at heq
            have Hsr := Lib.hid hsr
            clear hsr
            refine wp_region_ext (by kernel_rfl) (by kernel_rfl) ?_
            repeat (go_big_quiet_step (first | (go_at_call 133; with_reducible exact hRx.out _) | (go_at_call 133; with_reducible exact hRe.out _) | (go_at_call 134; with_reducible exact hSm.out _)))
            refine wpQuiet_nil ?_
            intro _ hw'
            obtain ⟨t, hw''⟩ := hw'
            subst hw''
            go_wp2
            go_ret
            refine ⟨ret_bool ?_, (HB6.out.trans (below_le HB6.out.size HB9.out)).trans (below_le (Nat.le_trans HB6.out.size HB9.out.size) t.below)⟩
            rw [← Hre2.out, Hbad.out, Hsr.out]
            first | rfl | simp
        · have hen := hbe.ne_nil
          have heg := hbe.guard 46
          have Hbad := Lib.hid hbad
          clear hbad hbe
          refine wp_region_ext (by kernel_rfl) (by kernel_rfl) ?_
          repeat (go_big_quiet_step (first | (go_at_call 133; with_reducible exact hRx.out _) | (go_at_call 133; with_reducible exact hRe.out _) | (go_at_call 134; with_reducible exact hSm.out _)))
          refine wpQuiet_nil ?_
          intro _ hw'
          obtain ⟨t, hw''⟩ := hw'
          subst hw''
          go_wp2
          go_ret
          refine ⟨ret_bool ?_, (HB6.out.trans (below_le HB6.out.size HB9.out)).trans (below_le (Nat.le_trans HB6.out.size HB9.out.size) t.below)⟩
          rw [← Hre2.out, Hbad.out]
          first | rfl | simp
end Go.Proofs.YtkdlofgfkfhofaaGreatDoor

/-
  entry: Put.
-/
namespace Go.Proofs.YtkdlofgfkfhofaaGreatDoor
open Go.RowKit
attribute [local go_sem ↓] ldB_eq stB_eq ldE_eq stE_eq

set_option maxRecDepth 100000 in
set_option maxHeartbeats 4000000 in
theorem ePut_any (e : Ent) (A : Option Addr) (n c : Nat) (w : World) (hr : RdT w A n c e.bat.vals) :
    Calls Tryz.prog 56 #[.agg #[.int .i64 e.kind, .string e.topic, .string e.group, .int .i64 e.part, .int .i64 e.parts, .int .i64 e.first, .int .i64 e.off, .int .i64 e.bat.time, .int .i64 e.bat.prod, .int .i64 e.bat.seq, .slice A n c]] w fun er w' => ∃ A' M c', er = .returned (.slice A' M c') ∧ OwnB w' w.heap.size (.slice A' M c') (putE e) ∧ Below w.heap.size w w' := by
  have hbn := below_new w (.cells #[.int .i64 e.kind, .string e.topic, .string e.group, .int .i64 e.part, .int .i64 e.parts, .int .i64 e.first, .int .i64 e.off, .int .i64 e.bat.time, .int .i64 e.bat.prod, .int .i64 e.bat.seq, .slice A n c] 121)
  have hbk := Bk.made w 121 #[.int .i64 e.kind, .string e.topic, .string e.group, .int .i64 e.part, .int .i64 e.parts, .int .i64 e.first, .int .i64 e.off, .int .i64 e.bat.time, .int .i64 e.bat.prod, .int .i64 e.bat.seq, .slice A n c]
  have hld := ldE_bk hbk
  have HBK := Lib.hid hbk
  have HR := Lib.hid hr
  have HB0 := Lib.hid hbn
  clear hbn hbk hr
  go_enter Tryz.func56, Tryz.ntmps56
  go_wp2_with fail
  refine calls_cut (fun w' => Bk w' w.heap.size 121 #[.int .i64 e.kind, .string e.topic, .string e.group, .int .i64 e.part, .int .i64 e.parts, .int .i64 e.first, .int .i64 e.off, .int .i64 e.bat.time, .int .i64 e.bat.prod, .int .i64 e.bat.seq, .slice A n c] ∧ Below w.heap.size w w') ⟨HBK.out, HB0.out⟩ ?_
  clear hld HBK HB0
  rintro w1 ⟨hk1, hb1⟩
  obtain ⟨r, hre⟩ : ∃ r, rightE e = r := ⟨_, rfl⟩
  refine (eRight_any e A n c w1 (HR.out.ext hb1) r hre).mono ?_
  rintro er w2 ⟨rfl, hb2⟩
  have hk2 := hk1.ext hb2
  have HB2 := Lib.hid (hb1.trans (below_le hb1.size hb2))
  have Hre := Lib.hid hre
  cases r
  · clear hre hk1 hb1 hb2 hk2
    go_wp2_with fail
    go_ret
    exact ⟨none, 0, 0, rfl, by rw [putE_no Hre.out]; exact OwnB.nil _ _, HB2.out⟩
  · have hok := Lib.hid (right_facts hre).1
    have hkd := Lib.hid (right_kind hre)
    have FS : Hid (∀ w', Below w2.heap.size w2 w' → (Below w2.heap.size w2 w' ∧ w'.cell? ⟨w.heap.size, 0, none⟩ = some (.int .i64 e.kind) ∧ (ldE (.pointer (some ⟨w.heap.size, 0, none⟩))).run Tryz.prog w' = .ok (.agg #[.int .i64 e.kind, .string e.topic, .string e.group, .int .i64 e.part, .int .i64 e.parts, .int .i64 e.first, .int .i64 e.off, .int .i64 e.bat.time, .int .i64 e.bat.prod, .int .i64 e.bat.seq, .slice A n c]) w')) := fun w' hb => ⟨hb, (hk2.ext hb).cell 0, ldE_bk (hk2.ext hb)⟩
    have r0 := below_drew1 (Below.refl w2.heap.size w2)
    have HF := Lib.hid (fields_any e.kind w2.drew w2 w2.heap.size r0 r0.size)
    have HR2 := Lib.hid (HR.out.ext HB2.out)
    clear hre hk1 hb1 hb2 hk2 HR
    go_wp2_with fail
    go_region_held3 (fun w' => Below w2.heap.size w2 w' ∧ w'.cell? ⟨w.heap.size, 0, none⟩ = some (.int .i64 e.kind) ∧ (ldE (.pointer (some ⟨w.heap.size, 0, none⟩))).run Tryz.prog w' = .ok (.agg #[.int .i64 e.kind, .string e.topic, .string e.group, .int .i64 e.part, .int .i64 e.parts, .int .i64 e.first, .int .i64 e.off, .int .i64 e.bat.time, .int .i64 e.bat.prod, .int .i64 e.bat.seq, .slice A n c]) w') (first | exact FS.out _ r0 | exact FS.out _ hb5 | exact FS.out _ hx4 | exact FS.out _ hb3) (first | (go_at_call 100; (with_reducible refine HF.out.mono ?_); rintro er w3 ⟨v3, rfl, hf3, hb3⟩; obtain ⟨A3, n3, c3, rfl, hrf, hn3, _⟩ := hf3; have Hrf := Lib.hid hrf) | (go_at_call 101; (with_reducible refine (values_any e.kind e.topic e.group e.part e.parts e.first e.off e.bat.time e.bat.prod e.bat.seq e.bat.vals A n c _ w3 w3.heap.size (HR2.out.ext hb3) (Below.refl _ _) (Nat.le_refl _)).mono ?_); rintro er w4 ⟨v4, rfl, hv4, hb4, hs4⟩; obtain ⟨A4, n4, c4, ms, rfl, hrv, hvs⟩ := hv4; have Hrv := Lib.hid hrv; have Hvs := Lib.hid hvs; have Hf4 := Lib.hid (Hrf.out.ext hb4); have hx4 : Below w2.heap.size w2 w4 := hb3.trans (below_le hb3.size hb4)) | (go_at_call 59; (with_reducible refine (fput_r A3 n3 c3 (fldsE e.kind) A4 n4 c4 ms w4 (flds_some _) Hf4.out Hrv.out hn3 w2 w2.heap.size hx4 hx4.size).mono ?_); rintro er w5 ⟨A5, M5, c5, v5, rfl, hp5, hb5⟩) | fail)
    all_goals
      rw [Hvs.out] at hp5
      have e0 := (FS.out _ hb5).2.1
      rcases hp5 with ⟨_, rfl, ho5⟩ | ⟨hno, _⟩
      · have HO5 := Lib.hid ho5
        have HB5 := Lib.hid (HB2.out.trans (below_le HB2.out.size hb5))
        have hkk : e.kind % 256 = e.kind := by have := hkd.out; omega
        have hw8 : Hid (w8 (UInt8.ofNat e.kind.toNat) = e.kind) := w8_kind hkd.out
        have hown : OwnB (w5.alloc (.cells #[.int .u8 (w8 (UInt8.ofNat e.kind.toNat))] 5)) w.heap.size (.slice (some ⟨w5.heap.size, 0, none⟩) 1 1) [UInt8.ofNat e.kind.toNat] :=
          ((show Bb (w5.alloc (.cells #[.int .u8 (w8 (UInt8.ofNat e.kind.toNat))] 5)) w5.heap.size 5 [UInt8.ofNat e.kind.toNat] from Bk.made w5 5 _).owns (n := 1) rfl (by omega)).own HB5.out.size 1 rfl
        rw [hw8.out] at hown
        have Hown := Lib.hid hown
        have hM5 : Hid (M5 = (bytesAll (fldsE e.kind) (valsE e)).length) := ho5.rd.len.symm
        have hM6 : Hid (M5 ≤ 600) := by
          show M5 ≤ 600
          have := putE_len e
          rw [putE_eq Hre.out, List.length_cons] at this
          rw [hM5.out]
          omega
        have hbn := Lib.hid (below_new w5 (.cells #[.int .u8 e.kind] 5))
        clear ho5 hown hw8
        go_wp2_with (first | (at_builtin; refine wpList_append_bytes rfl (.tmp 20) (.tmp 21) rfl w.heap.size w _ [UInt8.ofNat e.kind.toNat] rfl Hown.out A5 M5 c5 (bytesAll (fldsE e.kind) (valsE e)) rfl (HO5.out.rd.ext hbn.out) (by have := hM6.out; simp; omega) (HB5.out.trans (below_le HB5.out.size hbn.out)) (Nat.le_trans HB5.out.size hbn.out.size) (1 + M5) rfl ?_; intro A6 c6 w6 ho6 hb6 hs6) | fail)
        go_ret
        refine ⟨_, _, _, rfl, ?_, hb6⟩
        rw [putE_eq Hre.out]
        exact ho6.out
      · rw [hok.out] at hno
        cases hno
end Go.Proofs.YtkdlofgfkfhofaaGreatDoor
