import Derived.Test.YtjodiieeocaipaaGreatDoorSRunz
import Derived.Laws.IdiomStrings
/-
  stavekeep: Word; a State's marks in a law's hands.
-/
namespace Go.Proofs.YtjodiieeocaipaaGreatDoor
open Go.RowKit Go.Maps

/-- the j-th word -/
def wd (j : Nat) : ByteArray := ⟨#[UInt8.ofNat (97 + j)]⟩
/-- which word a number's is -/
def wn (n : Int) : Nat := (within n 0 2).toNat
theorem wn_lt (n : Int) : wn n < 3 := by have := within_in n 0 2 (by omega); unfold wn; omega
theorem wd_ok {j : Nat} (h : j < 3) : nameOk (wd j) = true := by
  match j, h with
  | 0, _ => decide
  | 1, _ => decide
  | 2, _ => decide
theorem wd_size (j : Nat) : (wd j).size = 1 := rfl
theorem wd_inj {i j : Nat} (hi : i < 3) (hj : j < 3) (h : wd i = wd j) : i = j := by
  have h1 : UInt8.ofNat (97 + i) = UInt8.ofNat (97 + j) := by
    have := congrArg (fun b : ByteArray => b.data[0]!) h
    simpa [wd] using this
  have h2 := congrArg UInt8.toNat h1
  simp at h2
  omega

set_option maxRecDepth 100000 in
set_option maxHeartbeats 400000 in
theorem kword_any (n : Int) (w : World) (hn : -9223372036854775808 ≤ n) (hn' : n ≤ 9223372036854775807) :
    Calls Tryz.prog 30 #[.int .i64 n] w fun e w' => e = .returned (.string (wd (wn n))) ∧ Below w.heap.size w w' := by
  have hb := below_new w (.cells #[.int .u8 (w8 (UInt8.ofNat (97 + wn n)))] 5)
  have hcv : (convert 54 9 (.slice (some ⟨w.heap.size, 0, none⟩) 1 1)).run Tryz.prog (w.alloc (.cells #[.int .u8 (w8 (UInt8.ofNat (97 + wn n)))] 5)) = .ok (.string (wd (wn n))) (w.alloc (.cells #[.int .u8 (w8 (UInt8.ofNat (97 + wn n)))] 5)) :=
    run_convert_bytes_back (P := Tryz.prog) _ 54 9 5 ⟨w.heap.size, 0, none⟩ 1 [UInt8.ofNat (97 + wn n)] Tryz.underlying54 Tryz.underlying5 Tryz.underlying9 (fun j hj => by
      obtain rfl : j = 0 := by simpa using hj
      exact (cell_of_row _ _ 0 _ _ _ (heap_alloc_new w _)).trans rfl)
  have hw := within_in n 0 2 (by omega)
  have h8 : w8 (UInt8.ofNat (97 + wn n)) = 97 + within n 0 2 := by
    unfold w8 wn
    rw [UInt8.toNat_ofNat']
    omega
  rw [h8] at hcv hb
  have hW := within_any n 0 2 w (by omega) (by omega) (by omega) hn hn'
  generalize within n 0 2 = z at hcv hb hw hW h8
  have hz := hw.1
  have hz' := hw.2
  have h256 : (97 + z) % 256 = 97 + z := by omega
  go_enter Tryz.func30, Tryz.ntmps30
  go_wp2_with (first | (go_at_call 14; refine hW.mono ?_; rintro e w1 ⟨rfl, rfl⟩) | fail)
  go_ret
  exact ⟨rfl, hb⟩

theorem run_marked {w0 w : World} {s N : Nat} {M : StM} {K : Nat → Prop} (h : Run w0 w s N M K) (a n : ByteArray) (ha : a.size ≤ 1000) (hn : n.size ≤ 1000) (k : Int) (hk : (Lit.int .i64 k).wf = true) :
    Calls Tryz.prog 16 #[.pointer (some ⟨s, 0, none⟩), .string a, .string n, .int .i64 k] w fun e w' => e = .returned (.tuple #[.int .i64 (markOf M.grp (mkey a n k)), .bool (Maps.has M.grp (mkey a n k))]) ∧ w = w' := by
  obtain ⟨o, S, h1, rfl, _, _, _⟩ := h
  exact stMarked_any h1 a n ha hn k hk
/-- a topic's name that is one of the words, and "z" -/
theorem wd_z {j : Nat} (h : j < 3) : wd j ≠ ⟨#[122]⟩ := by
  match j, h with
  | 0, _ => decide
  | 1, _ => decide
  | 2, _ => decide
end Go.Proofs.YtjodiieeocaipaaGreatDoor

/-
  What is done to one topic leaves another one's partitions and marks.
-/
namespace Go.Proofs.YtjodiieeocaipaaGreatDoor
open Go.RowKit Go.Maps

theorem find_ins_other {T : TopM} {n m : ByteArray} {l : List PartM} (h : m ≠ n) : findT (insT (n, l) T) m = findT T m := by
  unfold findT
  induction T with
  | nil =>
    show Option.map _ (List.find? _ [(n, l)]) = _
    rw [List.find?_cons, decide_eq_false (fun e => h e.symm)]
  | cons t r ih =>
    unfold insT
    split
    · rw [List.find?_cons, decide_eq_false (show ¬ n = m from fun e => h e.symm)]
    · rw [List.find?_cons, List.find?_cons]
      cases decide (t.1 = m)
      · exact ih
      · rfl
theorem find_ins_same {T : TopM} {n : ByteArray} {l : List PartM} (h : hasT T n = false) : findT (insT (n, l) T) n = some l := by
  unfold findT
  induction T with
  | nil =>
    show Option.map _ (List.find? _ [(n, l)]) = _
    rw [List.find?_cons, decide_eq_true rfl]
    rfl
  | cons t r ih =>
    have h' : decide (t.1 = n) = false ∧ hasT r n = false := by
      unfold hasT at h ⊢
      rw [List.any_cons, Bool.or_eq_false_iff] at h
      exact h
    unfold insT
    split
    · rw [List.find?_cons, decide_eq_true rfl]
      rfl
    · rw [List.find?_cons, h'.1]
      exact ih h'.2
/-- the partitions of another topic -/
theorem top_other {M : StM} {e : Ent} {m : ByteArray} (h : m ≠ e.topic) (stripe at_ : Int) : findT (applyM M e stripe at_).1.top m = findT M.top m := by
  unfold applyM
  split
  · unfold applyR
    split
    · split
      · rfl
      · split
        · rfl
        · exact find_ins_other h
    · split
      · split
        · show findT (delT e.topic M.top) m = _
          rw [find_del, if_neg h]
        · rfl
      · cases partT M.top e.topic e.part with
        | none => rfl
        | some P =>
          dsimp only
          split
          · split <;> rfl
          · split
            · split
              · show findT (setT _ _ _ _) m = _
                rw [find_set, if_neg h]
              · rfl
            · show findT (setT _ _ _ _) m = _
              rw [find_set, if_neg h]
  · rfl
/-- a key that is none of the topic's stays -/
theorem less_find {es : List (Lit × DataW Unit)} {u : ByteArray} {kl : Lit} (h : ∀ d, ofTopic u kl d = false) : (es.filter fun p => !ofTopic u p.1 p.2).find? (fun p => p.1.sameKey kl) = es.find? (fun p => p.1.sameKey kl) := by
  rw [List.find?_filter]
  congr 1
  funext p
  cases hs : p.1.sameKey kl with
  | false => simp
  | true => rw [WideAt.sameKey_eq hs, h]; simp
theorem less_at {D : DataW Unit} {u : ByteArray} {kl : Lit} (h : ∀ d, ofTopic u kl d = false) (z : DataW Unit) : (lessOf u D).atKey kl z = D.atKey kl z := by
  cases D with
  | map es =>
    unfold lessOf Lib.deleteFuncD DataW.atKey
    dsimp only
    rw [less_find h]
  | _ => rfl
theorem less_has {D : DataW Unit} {u : ByteArray} {kl : Lit} (h : ∀ d, ofTopic u kl d = false) : Maps.has (lessOf u D) kl = Maps.has D kl := by
  cases D with
  | map es =>
    show (es.filter fun p => !ofTopic u p.1 p.2).any (fun p => p.1.sameKey kl) = es.any (fun p => p.1.sameKey kl)
    rw [List.any_filter]
    congr 1
    funext p
    cases hs : p.1.sameKey kl with
    | false => rw [Bool.and_false]
    | true => rw [WideAt.sameKey_eq hs, h]; rfl
  | _ => rfl
/-- the marks of another topic -/
theorem marks_other {M : StM} {e : Ent} {a m : ByteArray} {k : Int} (ha : a.size ≤ maxLen) (hm : m.size ≤ maxLen) (hk : (Lit.int .i64 k).wf = true) (h : m ≠ e.topic) (stripe at_ : Int) :
    (∀ z, (applyM M e stripe at_).1.grp.atKey (mkey a m k) z = M.grp.atKey (mkey a m k) z) ∧ Maps.has (applyM M e stripe at_).1.grp (mkey a m k) = Maps.has M.grp (mkey a m k) := by
  unfold applyM
  split
  · rename_i hr
    have ht : e.topic.size ≤ maxLen := Nat.le_trans (right_short hr.1) (by unfold maxLen; omega)
    unfold applyR
    split
    · split
      · exact ⟨fun _ => rfl, rfl⟩
      · split <;> exact ⟨fun _ => rfl, rfl⟩
    · split
      · have ho : ∀ d, ofTopic e.topic (mkey a m k) d = false := fun d => by rw [ofTopic_key ha hm ht hk, decide_eq_false h]
        split
        · exact ⟨fun z => less_at ho z, less_has ho⟩
        · exact ⟨fun _ => rfl, rfl⟩
      · cases partT M.top e.topic e.part with
        | none => exact ⟨fun _ => rfl, rfl⟩
        | some P =>
          dsimp only
          split
          · rename_i h4
            obtain ⟨g1, g2, g3⟩ := right4 hr.1 h4
            have hne : mkey a m k ≠ mkey e.group e.topic e.part := fun ee => h (mkey_inj ha hm hk (Nat.le_trans (nameOk_le g1) (by unfold maxLen; omega)) ht (wf_of (by omega) (by omega)) ee).2.1
            split
            · exact ⟨fun z => atKey_put_other hne _ z, has_put_other hne _⟩
            · exact ⟨fun _ => rfl, rfl⟩
          · split
            · split <;> exact ⟨fun _ => rfl, rfl⟩
            · exact ⟨fun _ => rfl, rfl⟩
  · exact ⟨fun _ => rfl, rfl⟩
end Go.Proofs.YtjodiieeocaipaaGreatDoor

/-
  stavelaw21: StateApart: what the model says of the topic z.
-/
namespace Go.Proofs.YtjodiieeocaipaaGreatDoor
open Go.RowKit Go.Maps

def zN : ByteArray := ⟨#[122]⟩
def aN : ByteArray := ⟨#[97]⟩
def entZ (first : Int) : Ent := ⟨1, zN, nul, 0, 1, first, 0, noB⟩
def batZ : Bat := ⟨0, 1, 0, [⟨#[113]⟩]⟩
def entZP : Ent := ⟨3, zN, nul, 0, 0, 0, 0, batZ⟩
def entZM : Ent := ⟨4, zN, aN, 0, 0, 0, 4, noB⟩
def entZD : Ent := ⟨2, zN, nul, 0, 0, 0, 0, noB⟩
theorem right_Z7 : rightE (entZ 7) = true := by decide
theorem right_ZP : rightE entZP = true := by decide
theorem right_ZM : rightE entZM = true := by decide
theorem right_ZD : rightE entZD = true := by decide
theorem right_Zall : ((List.range 100).all fun m => rightE (entZ m)) = true := by decide +kernel
theorem right_Zn {m : Int} (h0 : 0 ≤ m) (h1 : m < 100) : rightE (entZ m) = true := by
  have := List.all_eq_true.1 right_Zall m.toNat (List.mem_range.2 (by omega))
  rwa [Int.toNat_of_nonneg h0] at this
/-- z's partition and its mark -/
structure ZAt (M : StM) (P : PartM) : Prop where
  top : findT M.top zN = some [P]
  mark : ∀ z, M.grp.atKey (mkey aN zN 0) z = .lit (.int .i64 4)
  has : Maps.has M.grp (mkey aN zN 0) = true
theorem ZAt.other {M : StM} {P : PartM} (h : ZAt M P) {e : Ent} (he : zN ≠ e.topic) (stripe at_ : Int) : ZAt (applyM M e stripe at_).1 P := by
  have hm := marks_other (M := M) (a := aN) (m := zN) (k := 0) (by decide) (by decide) (by decide) he stripe at_
  exact ⟨(top_other he stripe at_).trans h.top, fun z => (hm.1 z).trans (h.mark z), hm.2.trans h.has⟩
theorem prodZ {first : Int} (h0 : 0 ≤ first) (h1 : first ≤ 1000) (at_ : Int) (ha : 0 ≤ at_) (stripe : Int) (hs : 0 ≤ stripe) : prodM (newPart first) batZ stripe at_ = (⟨addLog (newLog first) 1 0 stripe at_, noteD (fun _ => none) 1 ⟨0, first, 1⟩⟩, ⟨first, 1, false⟩, 0) := by
  refine prodM_new (x := ⟨0, 0, 0⟩) (by rfl) ?_
  unfold addBad addOk maxI
  rw [if_neg (by simp [batZ, hs, ha]), if_neg (by show ¬ _ - first < 1; omega)]
theorem part_find {T : TopM} {n : ByteArray} {P : PartM} (h : findT T n = some [P]) : partT T n 0 = some P := by
  unfold partT
  rw [if_pos (by decide), h]
  rfl
/-- z goes, and comes anew -/
theorem zend {M : StM} {P : PartM} (h : ZAt M P) {first : Int} (h0 : 0 ≤ first) (h1 : first < 100) (stripe : Int) (hs : 0 ≤ stripe) :
    ∃ M1, applyM M entZD stripe 0 = (M1, noDone, 0) ∧ (M1.top.length < 8 → ∃ M2 M3, applyM M1 (entZ first) stripe 1 = (M2, noDone, 0) ∧ applyM M2 entZP stripe 2 = (M3, ⟨first, 1, false⟩, 0)) := by
  have hp := part_find h.top
  refine ⟨⟨delT zN M.top, lessOf zN M.grp⟩, ?_, fun h8' => ?_⟩
  · rw [applyM_ok right_ZD hs (by decide), app2 (e := entZD) rfl]
    show ((remM M zN).1, noDone, (remM M zN).2) = _
    unfold remM
    rw [if_pos (has_part hp)]
  · have hno : hasT (delT zN M.top) zN = false := by
      rw [has_find, find_del, if_pos rfl]
      rfl
    refine ⟨⟨insT (zN, [newPart first]) (delT zN M.top), lessOf zN M.grp⟩, ⟨setT (insT (zN, [newPart first]) (delT zN M.top)) zN 0 ⟨addLog (newLog first) 1 0 stripe 2, noteD (fun _ => none) 1 ⟨0, first, 1⟩⟩, lessOf zN M.grp⟩, ?_, ?_⟩
    · rw [applyM_ok (right_Zn h0 h1) hs (by decide), app1 (e := entZ first) rfl]
      unfold creM
      rw [if_neg (by show ¬ hasT (delT zN M.top) zN = true; rw [hno]; decide), if_neg (by show ¬ 8 ≤ (delT zN M.top).length; have : (delT zN M.top).length < 8 := h8'; omega)]
      rfl
    · rw [applyM_ok right_ZP hs (by decide), app3 (e := entZP) rfl (P := newPart first) (part_find (find_ins_same hno))]
      show ((⟨setT _ zN 0 (prodM (newPart first) batZ stripe 2).1, _⟩ : StM), (prodM (newPart first) batZ stripe 2).2.1, (prodM (newPart first) batZ stripe 2).2.2) = _
      rw [prodZ h0 (by omega) 2 (by decide) stripe hs]
end Go.Proofs.YtjodiieeocaipaaGreatDoor

/-
  stavelaw21: StateApart: how z begins, and how it ends, as the model says.
-/
namespace Go.Proofs.YtjodiieeocaipaaGreatDoor
open Go.RowKit Go.Maps

theorem del_shorter {n : ByteArray} {T : TopM} (h : hasT T n = true) : (delT n T).length < T.length := by
  unfold hasT at h
  unfold delT
  induction T with
  | nil => cases h
  | cons t r ih =>
    rw [List.any_cons] at h
    by_cases ht : t.1 = n
    · rw [List.filter_cons_of_neg (by simp [ht])]
      exact Nat.lt_succ_of_le (List.length_filter_le _ _)
    · rw [decide_eq_false ht, Bool.false_or] at h
      rw [List.filter_cons_of_pos (by simp [ht])]
      exact Nat.succ_lt_succ (ih h)
theorem run_few {w0 w : World} {s N : Nat} {M : StM} {K : Nat → Prop} (h : Run w0 w s N M K) : M.top.length ≤ 8 := by
  obtain ⟨o, S, h1, rfl, _⟩ := h
  have := h1.few
  show (S.V.map _).length ≤ 8
  simpa using this
theorem less_gone {D : DataW Unit} {u : ByteArray} {kl : Lit} (h : ∀ d, ofTopic u kl d = true) : Maps.has (lessOf u D) kl = false := by
  cases D with
  | map es =>
    show (es.filter fun p => !ofTopic u p.1 p.2).any (fun p => p.1.sameKey kl) = false
    rw [List.any_filter]
    refine List.any_eq_false.2 fun p _ => ?_
    cases hs : p.1.sameKey kl with
    | false => simp
    | true => rw [WideAt.sameKey_eq hs, h]; simp
  | _ => rfl
theorem find_one {n : ByteArray} {l : List PartM} : findT [(n, l)] n = some l := by
  unfold findT
  rw [List.find?_cons, decide_eq_true rfl]
  rfl
/-- how z begins -/
theorem zstart : ∃ M1 M2 M3 P, applyM newSt (entZ 7) 0 0 = (M1, ⟨0, 0, false⟩, 0) ∧ applyM M1 entZP 0 1 = (M2, ⟨7, 1, false⟩, 0) ∧ applyM M2 entZM 0 2 = (M3, ⟨0, 0, false⟩, 0) ∧ ZAt M3 P ∧ P.log.start = 7 ∧ P.log.next = 8 := by
  have f1 : findT [(zN, [newPart 7])] zN = some [newPart 7] := find_one
  have f2 : findT (setT [(zN, [newPart 7])] zN 0 ⟨addLog (newLog 7) 1 0 0 1, noteD (fun _ => none) 1 ⟨0, 7, 1⟩⟩) zN = some [⟨addLog (newLog 7) 1 0 0 1, noteD (fun _ => none) 1 ⟨0, 7, 1⟩⟩] := by
    rw [find_set, if_pos rfl, f1]
    rfl
  have hd : Maps.IsMap (.map [] : DataW Unit) := ⟨[], rfl⟩
  refine ⟨⟨[(zN, [newPart 7])], .map []⟩, ⟨setT [(zN, [newPart 7])] zN 0 ⟨addLog (newLog 7) 1 0 0 1, noteD (fun _ => none) 1 ⟨0, 7, 1⟩⟩, .map []⟩, ⟨setT [(zN, [newPart 7])] zN 0 ⟨addLog (newLog 7) 1 0 0 1, noteD (fun _ => none) 1 ⟨0, 7, 1⟩⟩, (DataW.map []).put (mkey aN zN 0) (.lit (.int .i64 4))⟩, _, ?_, ?_, ?_, ⟨f2, fun z => ?_, ?_⟩, rfl, rfl⟩
  · rw [applyM_ok right_Z7 (by decide) (by decide), app1 (e := entZ 7) rfl]
    rfl
  · rw [applyM_ok right_ZP (by decide) (by decide), app3 (e := entZP) rfl (P := newPart 7) (part_find f1)]
    show ((⟨setT _ zN 0 (prodM (newPart 7) batZ 0 1).1, _⟩ : StM), (prodM (newPart 7) batZ 0 1).2.1, (prodM (newPart 7) batZ 0 1).2.2) = _
    rw [prodZ (by decide) (by decide) 1 (by decide) 0 (by decide)]
  · rw [applyM_ok right_ZM (by decide) (by decide), app4 (e := entZM) rfl (part_find f2)]
    have hb : setBad (.map [] : DataW Unit) aN zN 0 4 = 0 := by decide
    show (if setBad (.map [] : DataW Unit) aN zN 0 4 = 0 then _ else _) = _
    rw [if_pos hb]
    rfl
  · exact atKey_put_same hd (mkey_isKey _ _ _) _ _
  · exact has_put_same hd (mkey_isKey _ _ _) _
/-- how it ends -/
theorem zend2 {w0 w : World} {s N : Nat} {M : StM} {K : Nat → Prop} (hr : Run w0 w s N M K) {P : PartM} (h : ZAt M P) {first : Int} (h0 : 0 ≤ first) (h1 : first < 100) :
    ∃ M1 M2 M3, applyM M entZD 2 0 = (M1, ⟨0, 0, false⟩, 0) ∧ applyM M1 (entZ first) 2 1 = (M2, ⟨0, 0, false⟩, 0) ∧ applyM M2 entZP 2 2 = (M3, ⟨first, 1, false⟩, 0) ∧ Maps.has M3.grp (mkey aN zN 0) = false := by
  have hf := run_few hr
  have hp := part_find h.top
  have hsh := del_shorter (has_part hp)
  have hno : hasT (delT zN M.top) zN = false := by
    rw [has_find, find_del, if_pos rfl]
    rfl
  refine ⟨⟨delT zN M.top, lessOf zN M.grp⟩, ⟨insT (zN, [newPart first]) (delT zN M.top), lessOf zN M.grp⟩, ⟨setT (insT (zN, [newPart first]) (delT zN M.top)) zN 0 ⟨addLog (newLog first) 1 0 2 2, noteD (fun _ => none) 1 ⟨0, first, 1⟩⟩, lessOf zN M.grp⟩, ?_, ?_, ?_, less_gone fun d => ?_⟩
  · rw [applyM_ok right_ZD (by decide) (by decide), app2 (e := entZD) rfl]
    show ((remM M zN).1, noDone, (remM M zN).2) = _
    unfold remM
    rw [if_pos (has_part hp)]
    rfl
  · rw [applyM_ok (right_Zn h0 h1) (by decide) (by decide), app1 (e := entZ first) rfl]
    unfold creM
    rw [if_neg (by show ¬ hasT (delT zN M.top) zN = true; rw [hno]; decide), if_neg (by show ¬ 8 ≤ (delT zN M.top).length; omega)]
    rfl
  · rw [applyM_ok right_ZP (by decide) (by decide), app3 (e := entZP) rfl (P := newPart first) (part_find (find_ins_same hno))]
    show ((⟨setT _ zN 0 (prodM (newPart first) batZ 2 2).1, _⟩ : StM), (prodM (newPart first) batZ 2 2).2.1, (prodM (newPart first) batZ 2 2).2.2) = _
    rw [prodZ h0 (by omega) 2 (by decide) 2 (by decide)]
  · rw [ofTopic_key (by decide) (by decide) (by decide) (by decide), decide_eq_true rfl]
end Go.Proofs.YtjodiieeocaipaaGreatDoor

/-
  stavelaw21: StateMarks: what the model says of z's marks.
-/
namespace Go.Proofs.YtjodiieeocaipaaGreatDoor
open Go.RowKit Go.Maps

def gN : ByteArray := ⟨#[103]⟩
def yN : ByteArray := ⟨#[121]⟩
def entZ2 : Ent := ⟨1, zN, nul, 0, 2, 0, 0, noB⟩
def entG (t : ByteArray) (p n : Int) : Ent := ⟨4, t, gN, p, 0, 0, n, noB⟩
theorem right_Z2 : rightE entZ2 = true := by decide
theorem nameOk_pos {s : ByteArray} (h : nameOk s = true) : 0 < s.size ∧ s.size ≤ 24 := by
  unfold nameOk at h
  simp only [Bool.and_eq_true, decide_eq_true_eq] at h
  exact h.1
theorem right_mark {t g : ByteArray} {p off : Int} (ht : nameOk t = true) (hg : nameOk g = true) (hp : 0 ≤ p ∧ p < 4) (ho : 0 ≤ off ∧ off ≤ 9223372036854775807) : rightE ⟨4, t, g, p, 0, 0, off, noB⟩ = true := by
  have h1 := nameOk_pos ht
  have h2 := nameOk_pos hg
  have e1 : fldsE 4 = [nameF, nameF, partF, offF] := rfl
  have e2 : valsE ⟨4, t, g, p, 0, 0, off, noB⟩ = [sV g, sV t, nV p, nV off] := rfl
  unfold rightE
  dsimp only
  rw [e1, e2]
  have e3 : okAll [nameF, nameF, partF, offF] [sV g, sV t, nV p, nV off] = true := by
    simp [okAll, fitsV, nameF, partF, offF, nF, sF, sV, nV, inF, nul]
    exact ⟨by omega, by omega, ⟨by omega, rfl⟩, by omega, rfl⟩
  have e4 : namesE ⟨4, t, g, p, 0, 0, off, noB⟩ = true := by simp [namesE, ht, hg]
  have e5 : madeE 4 [sV g, sV t, nV p, nV off] = ⟨4, t, g, p, 0, 0, off, noB⟩ := rfl
  have e6 : sameR ⟨4, t, g, p, 0, 0, off, noB⟩ ⟨4, t, g, p, 0, 0, off, noB⟩ = true ∧ sameB noB noB = true := same_iff.2 rfl
  rw [e3, e4, e5, e6.1]
  exact e6.2
theorem right_G {t : ByteArray} (ht : nameOk t = true) {p n : Int} (hp : 0 ≤ p ∧ p < 4) (ho : 0 ≤ n ∧ n ≤ 9223372036854775807) : rightE (entG t p n) = true := right_mark ht (by decide) hp ho
/-- z is there, with the mark n of the group "g" at its partition k, and none at j -/
structure MkAt (M : StM) (n k j : Int) : Prop where
  top : hasT M.top zN = true
  mark : ∀ z, M.grp.atKey (mkey gN zN k) z = .lit (.int .i64 n)
  has : Maps.has M.grp (mkey gN zN k) = true
  no : Maps.has M.grp (mkey gN zN j) = false
theorem has_set {T : TopM} {n m : ByteArray} {k : Int} {P : PartM} : hasT (setT T n k P) m = hasT T m := by
  rw [has_find, has_find, find_set]
  split
  · rename_i h
    subst h
    cases findT T m <;> rfl
  · rfl
/-- what is put in or cut off leaves marks and topics -/
theorem step_pt {M : StM} {e : Ent} (h : e.kind = 3 ∨ e.kind = 5) (stripe at_ : Int) : (applyM M e stripe at_).1.grp = M.grp ∧ ∀ m, hasT (applyM M e stripe at_).1.top m = hasT M.top m := by
  unfold applyM
  split
  · unfold applyR
    rw [if_neg (by omega), if_neg (by omega)]
    cases partT M.top e.topic e.part with
    | none => exact ⟨rfl, fun _ => rfl⟩
    | some P =>
      dsimp only
      rw [if_neg (by omega)]
      split
      · split
        · exact ⟨rfl, fun _ => has_set⟩
        · exact ⟨rfl, fun _ => rfl⟩
      · exact ⟨rfl, fun _ => has_set⟩
  · exact ⟨rfl, fun _ => rfl⟩
theorem MkAt.step {M : StM} {n k j : Int} (h : MkAt M n k j) (hk : 0 ≤ k ∧ k < 4) (hj : 0 ≤ j ∧ j < 4) {e : Ent} (he : zN ≠ e.topic ∨ e.kind = 3 ∨ e.kind = 5) (stripe at_ : Int) : MkAt (applyM M e stripe at_).1 n k j := by
  rcases he with he | he
  · have hm := marks_other (M := M) (a := gN) (m := zN) (k := k) (by decide) (by decide) (wf_of (by omega) (by omega)) he stripe at_
    have hm' := marks_other (M := M) (a := gN) (m := zN) (k := j) (by decide) (by decide) (wf_of (by omega) (by omega)) he stripe at_
    refine ⟨?_, fun z => (hm.1 z).trans (h.mark z), hm.2.trans h.has, hm'.2.trans h.no⟩
    rw [has_find, top_other he stripe at_, ← has_find]
    exact h.top
  · obtain ⟨h1, h2⟩ := step_pt (M := M) he stripe at_
    exact ⟨(h2 _).trans h.top, fun z => by rw [h1]; exact h.mark z, by rw [h1]; exact h.has, by rw [h1]; exact h.no⟩
/-- how it begins -/
theorem mstart {n k : Int} (hn : 0 ≤ n ∧ n ≤ 9223372036854775807) (hk : 0 ≤ k ∧ k ≤ 1) :
    ∃ M1 M2, applyM newSt entZ2 0 0 = (M1, ⟨0, 0, false⟩, 0) ∧ applyM M1 (entG zN k n) 0 1 = (M2, ⟨0, 0, false⟩, 0) ∧ applyM M2 (entG zN (2 + k) n) 0 2 = (M2, ⟨0, 0, false⟩, 10) ∧ applyM M2 (entG yN 0 n) 0 3 = (M2, ⟨0, 0, false⟩, 10) ∧ MkAt M2 n k (1 - k) := by
  have f1 : findT [(zN, [newPart 0, newPart 0])] zN = some [newPart 0, newPart 0] := find_one
  have f2 : findT [(zN, [newPart 0, newPart 0])] yN = none := by
    unfold findT
    rw [List.find?_cons, decide_eq_false (by decide)]
    rfl
  have hd : Maps.IsMap (.map [] : DataW Unit) := ⟨[], rfl⟩
  have p1 : partT [(zN, [newPart 0, newPart 0])] zN k = some (newPart 0) := by
    unfold partT
    rw [if_pos hk.1, f1]
    obtain rfl | rfl : k = 0 ∨ k = 1 := by omega
    · rfl
    · rfl
  have p2 : partT [(zN, [newPart 0, newPart 0])] zN (2 + k) = none := by
    unfold partT
    rw [if_pos (by omega), f1]
    obtain rfl | rfl : k = 0 ∨ k = 1 := by omega
    · rfl
    · rfl
  have p3 : partT [(zN, [newPart 0, newPart 0])] yN 0 = none := by
    unfold partT
    rw [if_pos (by omega), f2]
    rfl
  refine ⟨⟨[(zN, [newPart 0, newPart 0])], .map []⟩, ⟨[(zN, [newPart 0, newPart 0])], (DataW.map []).put (mkey gN zN k) (.lit (.int .i64 n))⟩, ?_, ?_, ?_, ?_, ⟨?_, fun z => ?_, ?_, ?_⟩⟩
  · rw [applyM_ok right_Z2 (by decide) (by decide), app1 (e := entZ2) rfl]
    rfl
  · rw [applyM_ok (right_G (by decide) (by omega) hn) (by decide) (by decide), app4 (e := entG zN k n) rfl p1]
    have hb : setBad (.map [] : DataW Unit) gN zN k n = 0 := by
      have e0 : nameOk gN = true := by decide
      have e1 : nameOk zN = true := by decide
      unfold setBad
      rw [e0, e1, decide_eq_true hk.1, decide_eq_true (show k < 4 by omega), decide_eq_true hn.1]
      rfl
    show (if setBad (.map [] : DataW Unit) gN zN k n = 0 then _ else _) = _
    rw [if_pos hb]
    rfl
  · rw [applyM_ok (right_G (by decide) (by omega) hn) (by decide) (by decide), app_none (e := entG zN (2 + k) n) (by show (4 : Int) ≠ 1; decide) (by show (4 : Int) ≠ 2; decide) p2]
    rfl
  · rw [applyM_ok (right_G (by decide) (by omega) hn) (by decide) (by decide), app_none (e := entG yN 0 n) (by show (4 : Int) ≠ 1; decide) (by show (4 : Int) ≠ 2; decide) p3]
    rfl
  · rw [has_find]
    show (findT [(zN, [newPart 0, newPart 0])] zN).isSome = true
    rw [f1]
    rfl
  · exact atKey_put_same hd (mkey_isKey _ _ _) _ _
  · exact has_put_same hd (mkey_isKey _ _ _) _
  · show Maps.has ((DataW.map []).put (mkey gN zN k) (.lit (.int .i64 n))) (mkey gN zN (1 - k)) = false
    rw [has_put_other (fun ee => by
      have := (mkey_inj (by decide) (by decide) (wf_of (by omega) (by omega)) (by decide) (by decide) (wf_of (by omega) (by omega)) ee).2.2
      omega)]
    rfl
/-- how it ends -/
theorem mend {M : StM} {n k j : Int} (h : MkAt M n k j) (hk : 0 ≤ k ∧ k < 4) : ∃ M1, applyM M entZD 2 0 = (M1, ⟨0, 0, false⟩, 0) ∧ Maps.has M1.grp (mkey gN zN k) = false := by
  refine ⟨⟨delT zN M.top, lessOf zN M.grp⟩, ?_, less_gone fun d => ?_⟩
  · rw [applyM_ok right_ZD (by decide) (by decide), app2 (e := entZD) rfl]
    show ((remM M zN).1, noDone, (remM M zN).2) = _
    unfold remM
    rw [if_pos h.top]
    rfl
  · rw [ofTopic_key (by decide) (by decide) (by decide) (wf_of (by omega) (by omega)), decide_eq_true rfl]
end Go.Proofs.YtjodiieeocaipaaGreatDoor
