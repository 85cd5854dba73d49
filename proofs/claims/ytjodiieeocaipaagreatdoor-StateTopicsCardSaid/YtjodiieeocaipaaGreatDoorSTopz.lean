import Derived.Test.YtjodiieeocaipaaGreatDoorSKeys
import Derived.Test.YtjodiieeocaipaaGreatDoorSRunz
import Derived.Test.YtjodiieeocaipaaGreatDoorSMarkz
import Derived.Test.YtjodiieeocaipaaGreatDoorSDdz
/-
  state.Topics.
-/
namespace Go.Proofs.YtjodiieeocaipaaGreatDoor
open Go.RowKit Go.Maps

theorem find_at {V : List TopW} (h : Sorted V) {k : Nat} {t : TopW} (hk : V[k]? = some t) : findW V t.name = some t := by
  unfold findW
  induction V generalizing k with
  | nil => cases hk
  | cons a r ih =>
    rw [List.find?_cons]
    cases k with
    | zero =>
      have e : a = t := by simpa using hk
      subst e
      rw [decide_eq_true rfl]
    | succ k =>
      have hk' : r[k]? = some t := by simpa using hk
      have hm := List.mem_of_getElem? hk'
      have hne : a.name ≠ t.name := fun e => by
        have := (List.pairwise_cons.1 h).1 t hm
        rw [e, WideAt.bytes_irrefl] at this
        cases this
      rw [decide_eq_false hne]
      exact ih (List.pairwise_cons.1 h).2 hk'
def TopW.row (t : TopW) : List Value := [.string t.name, .int .i64 t.ps.length]
theorem info_topic : (Tryz.prog.info? 58).map (fun i => (i.zero, i.size, i.bytes)) = some (some (.agg #[.string ⟨#[]⟩, .int .i64 0]), 2, 24) := by kernel_rfl
set_option maxRecDepth 100000 in
set_option maxHeartbeats 1000000 in
theorem stTopics_any {o : Nat → Option Who} {s N : Nat} {S : StW} {w : World} (h : StAt w o s N S) :
    Calls Tryz.prog 21 #[.pointer (some ⟨s, 0, none⟩)] w fun e w' => ∃ A c, e = .returned (.slice A S.V.length c) ∧ RdK w' 2 A S.V.length c (S.V.map TopW.row) ∧ Below w.heap.size w w' := by
  obtain ⟨ii, hi0, hz0, hs0, hy0⟩ := info_parts info_topic
  have c0 : w.cell? ⟨s, 0, none⟩ = some (.map (some S.tb)) := h.bk.cell 0
  have HI := Lib.hid hi0
  have HZ := Lib.hid hz0
  have HSz := Lib.hid hs0
  have HY := Lib.hid hy0
  have HKy := Lib.hid (keys_any (some S.tb) w)
  have HSo := Lib.hid (topics_sorted h.map h.sorted h.few)
  have HS := Lib.hid h
  clear h hi0 hz0 hs0 hy0
  go_enter Tryz.func21, Tryz.ntmps21
  go_wp2_with (first | (go_at_call 36; go_loud (with_reducible refine HKy.out.mono ?_); rintro er w1 ⟨rfl, rfl⟩) | (go_at_call 35; go_loud (with_reducible refine HSo.out.mono ?_); go_loud (rintro er w2 ⟨An, cn, rfl, hrn, hbn⟩); have HRn := Lib.hid hrn; have HBn := Lib.hid hbn; clear hrn hbn) | fail)
  go_loopw [3, 13] (fun o i wr => ∃ (k : Nat) (A3 : Option Addr) (c3 : Nat), k ≤ S.V.length ∧ i = .int .i64 k ∧ o = .slice A3 k c3 ∧ Hid (wr.ownsRow w2.heap.size 58 2 (.slice A3 k c3) k ((S.V.take k).flatMap TopW.row)) ∧ Hid (Below w2.heap.size w2 wr)) (fun _ i _ => S.V.length - (intOf i).toNat)
  case atStart => exact ⟨0, none, 0, Nat.zero_le _, rfl, rfl, World.ownsRow_nil _ _ _ _, Below.refl _ _⟩
  case round =>
    obtain ⟨k, A3, c3, hk, rfl, rfl, hOwn, hBel⟩ := hrel
    have h8 := HS.out.few
    by_cases hlt : k < S.V.length
    · have hi : (k : Int) < S.V.length := by omega
      obtain ⟨t, ht⟩ : ∃ t, S.V[k]? = some t := ⟨S.V[k], List.getElem?_eq_getElem hlt⟩
      have hbw := HBn.out.trans (below_le HBn.out.size hBel.out)
      have hSx := HS.out.ext hbw
      have hT := hSx.tops t (List.mem_of_getElem? ht)
      obtain ⟨ad, rfl, hadl, hce⟩ := (RdT.ext HRn.out hBel.out).cell k (.string t.name) (by rw [List.getElem?_map, List.getElem?_map, ht]; rfl)
      have hlk := topics_look hSx.map t.name (Nat.le_trans hT.short (by unfold maxLen; omega))
      rw [find_at hSx.sorted ht] at hlk
      obtain ⟨At, ct, hv, hct, hct2, _⟩ := parts_cell hT.row
      replace hlk : (Instr.lookup 62 (.map (some S.tb)) (.string t.name) false).run Tryz.prog wr = .ok (.slice At t.ps.length ct) wr := by rw [← hv]; exact hlk
      have c1 : wr.cell? ⟨s, 0, none⟩ = some (.map (some S.tb)) := hSx.bk.cell 0
      have hps := hT.few
      have HT := Lib.hid ht
      clear hSx hT hv hct hct2 ht hadl hbw
      go_wp2_with (first | (at_builtin; go_loud (refine wpList_append_gen rfl (.tmp 17) (.tmp 27) 55 rfl 58 ii _ 2 24 Tryz.underlying55 HI.out HZ.out HSz.out HY.out rfl (by omega) w2.heap.size w2 _ k ((S.V.take k).flatMap TopW.row) rfl (World.ownsRow.alloc hOwn.out _) ⟨wr.heap.size, 0, none⟩ 1 1 [.string t.name, .int .i64 t.ps.length] rfl rfl (cells_newm wr _ (0, 0) _ _ rfl _ rfl) (one_all rfl) (by unfold maxLen; omega) (by omega) (hBel.out.alloc hBel.out.size _) (Nat.le_trans hBel.out.size (by simp)) ?_); go_loud (intro A6 c6 w6 ho6 hg6 hx6 hb6 hs6)) | fail)
      refine ⟨⟨k + 1, A6, c6, by omega, by go_num, rfl, ?_, hb6⟩, by simp [intOf]; omega⟩
      rw [List.take_add_one, HT.out, List.flatMap_append]
      exact ho6.out
    · obtain rfl : k = S.V.length := by omega
      have hi : ¬ (S.V.length : Int) < S.V.length := by omega
      have hrd := RdK.of_own TopW.row (fun _ => rfl) (by omega) _ hOwn.out
      rw [List.take_length] at hrd
      have HRd := Lib.hid hrd
      clear hrd
      go_wp2_with fail
      go_ret
      exact ⟨_, _, rfl, HRd.out, HBn.out.trans (below_le HBn.out.size hBel.out)⟩
/-- the topics' names, and how many partitions they have -/
def rowM (t : ByteArray × List PartM) : List Value := [.string t.1, .int .i64 t.2.length]
/-- the topics of a State in a law's hands -/
theorem run_topics {w0 w : World} {s N : Nat} {M : StM} {K : Nat → Prop} (h : Run w0 w s N M K) :
    Calls Tryz.prog 21 #[.pointer (some ⟨s, 0, none⟩)] w fun e w' => ∃ A c, e = .returned (.slice A M.top.length c) ∧ RdK w' 2 A M.top.length c (M.top.map rowM) ∧ Below w.heap.size w w' := by
  obtain ⟨o, S, h1, rfl, _⟩ := h
  refine (stTopics_any h1).mono ?_
  rintro er w' ⟨A, c, rfl, hr, hb⟩
  have e1 : S.m.top.length = S.V.length := by show (S.V.map _).length = _; simp
  have e2 : S.m.top.map rowM = S.V.map TopW.row := by
    show (S.V.map TopW.m).map rowM = _
    rw [List.map_map]
    refine List.map_congr_left fun t _ => ?_
    show [Value.string t.name, Value.int .i64 ((t.ps.map PartW.m).length : Int)] = _
    rw [List.length_map]
    rfl
  rw [e1, e2]
  exact ⟨A, c, rfl, hr, hb⟩
/-- the names stand in their order -/
theorem run_sorted {w0 w : World} {s N : Nat} {M : StM} {K : Nat → Prop} (h : Run w0 w s N M K) : M.top.Pairwise (fun a b => bytesBefore (namL a.1) (namL b.1) = true) := by
  obtain ⟨o, S, h1, rfl, _⟩ := h
  show (S.V.map TopW.m).Pairwise _
  rw [List.pairwise_map]
  exact h1.sorted
end Go.Proofs.YtjodiieeocaipaaGreatDoor

/-
  stavelaw21: StateTopics: what the model says of topics made one after the other.
-/
namespace Go.Proofs.YtjodiieeocaipaaGreatDoor
open Go.RowKit Go.Maps

theorem wd_ok12 : ((List.range 12).all fun j => nameOk (wd j)) = true := by decide +kernel
theorem wd_okT {j : Nat} (h : j < 12) : nameOk (wd j) = true := List.all_eq_true.1 wd_ok12 j (List.mem_range.2 h)
theorem right_create {t : ByteArray} {p f : Int} (ht : nameOk t = true) (hp : 1 ≤ p ∧ p ≤ 4) (hf : 0 ≤ f ∧ f ≤ 9223372036854775807) : rightE ⟨1, t, nul, 0, p, f, 0, noB⟩ = true := by
  have h1 := nameOk_pos ht
  have e1 : fldsE 1 = [nameF, nF 1 1 4, offF] := rfl
  have e2 : valsE ⟨1, t, nul, 0, p, f, 0, noB⟩ = [sV t, nV p, nV f] := rfl
  unfold rightE
  dsimp only
  rw [e1, e2]
  have e3 : okAll [nameF, nF 1 1 4, offF] [sV t, nV p, nV f] = true := by
    simp [okAll, fitsV, nameF, offF, nF, sF, sV, nV, inF, nul]
    exact ⟨by omega, ⟨by omega, rfl⟩, by omega, rfl⟩
  have e4 : namesE ⟨1, t, nul, 0, p, f, 0, noB⟩ = true := by simp [namesE, ht]
  have e5 : madeE 1 [sV t, nV p, nV f] = ⟨1, t, nul, 0, p, f, 0, noB⟩ := rfl
  have e6 : sameR ⟨1, t, nul, 0, p, f, 0, noB⟩ ⟨1, t, nul, 0, p, f, 0, noB⟩ = true ∧ sameB noB noB = true := same_iff.2 rfl
  rw [e3, e4, e5, e6.1]
  exact e6.2
def entT (j : Nat) (f : Int) : Ent := ⟨1, wd j, nul, 0, 1 + (j : Int) % 4, f, 0, noB⟩
theorem right_T {j : Nat} (h : j < 12) {f : Int} (hf : 0 ≤ f ∧ f ≤ 9223372036854775807) : rightE (entT j f) = true := right_create (wd_okT h) (by omega) hf
def anyN (L : List ByteArray) (n : ByteArray) : Bool := L.any (fun x => decide (x = n))
/-- the topics that stand, beside the list of names -/
structure TopI (M : StM) (L : List ByteArray) (f : Int) : Prop where
  len : M.top.length = L.length
  mem : ∀ n, hasT M.top n = anyN L n
  each : ∀ t ∈ M.top, ∃ j, j < 12 ∧ t = (wd j, List.replicate (1 + j % 4) (newPart f))
theorem topI_start (f : Int) : TopI newSt [] f := ⟨rfl, fun _ => rfl, fun _ h => absurd h List.not_mem_nil⟩
theorem ins_len {x : ByteArray × List PartM} {T : TopM} : (insT x T).length = T.length + 1 := by
  induction T with
  | nil => rfl
  | cons t r ih =>
    unfold insT
    split
    · rfl
    · simp [ih]
theorem ins_mem {x y : ByteArray × List PartM} {T : TopM} : y ∈ insT x T ↔ y = x ∨ y ∈ T := by
  induction T with
  | nil => simp [insT]
  | cons t r ih =>
    unfold insT
    split
    · simp
    · simp only [List.mem_cons, ih]
      constructor
      · rintro (h | h | h)
        · exact .inr (.inl h)
        · exact .inl h
        · exact .inr (.inr h)
      · rintro (h | h | h)
        · exact .inr (.inl h)
        · exact .inl h
        · exact .inr (.inr h)
theorem has_ins {x : ByteArray × List PartM} {T : TopM} {n : ByteArray} : hasT (insT x T) n = (hasT T n || decide (x.1 = n)) := by
  rw [Bool.eq_iff_iff]
  unfold hasT
  simp only [List.any_eq_true, Bool.or_eq_true, decide_eq_true_eq]
  constructor
  · rintro ⟨t, ht, e⟩
    rcases ins_mem.1 ht with rfl | ht
    · exact .inr e
    · exact .inl ⟨t, ht, e⟩
  · rintro (⟨t, ht, e⟩ | e)
    · exact ⟨t, ins_mem.2 (.inr ht), e⟩
    · exact ⟨x, ins_mem.2 (.inl rfl), e⟩
theorem any_snoc (L : List ByteArray) (x n : ByteArray) : anyN (L ++ [x]) n = (anyN L n || decide (x = n)) := by
  unfold anyN
  simp
theorem top_there {M : StM} {L : List ByteArray} {f : Int} (h : TopI M L f) {j : Nat} (hj : j < 12) (hf : 0 ≤ f ∧ f ≤ 9223372036854775807) {i : Int} (hi : 0 ≤ i) (ht : anyN L (wd j) = true) : applyM M (entT j f) 0 i = (M, ⟨0, 0, false⟩, 9) := by
  rw [applyM_ok (right_T hj hf) (by decide) hi, app1 (e := entT j f) rfl]
  unfold creM
  rw [if_pos (by show hasT M.top (wd j) = true; rw [h.mem]; exact ht)]
  rfl
theorem top_full {M : StM} {L : List ByteArray} {f : Int} (h : TopI M L f) {j : Nat} (hj : j < 12) (hf : 0 ≤ f ∧ f ≤ 9223372036854775807) {i : Int} (hi : 0 ≤ i) (ht : anyN L (wd j) = false) (h8 : 8 ≤ L.length) : applyM M (entT j f) 0 i = (M, ⟨0, 0, false⟩, 8) := by
  rw [applyM_ok (right_T hj hf) (by decide) hi, app1 (e := entT j f) rfl]
  unfold creM
  rw [if_neg (by show ¬ hasT M.top (wd j) = true; rw [h.mem, ht]; decide), if_pos (by rw [h.len]; exact h8)]
  rfl
theorem top_new {M : StM} {L : List ByteArray} {f : Int} (h : TopI M L f) {j : Nat} (hj : j < 12) (hf : 0 ≤ f ∧ f ≤ 9223372036854775807) {i : Int} (hi : 0 ≤ i) (ht : anyN L (wd j) = false) (h8 : L.length < 8) : ∃ M', applyM M (entT j f) 0 i = (M', ⟨0, 0, false⟩, 0) ∧ TopI M' (L ++ [wd j]) f := by
  refine ⟨⟨insT (wd j, List.replicate (1 + j % 4) (newPart f)) M.top, M.grp⟩, ?_, ⟨?_, fun n => ?_, fun t ht2 => ?_⟩⟩
  · rw [applyM_ok (right_T hj hf) (by decide) hi, app1 (e := entT j f) rfl]
    unfold creM
    rw [if_neg (by show ¬ hasT M.top (wd j) = true; rw [h.mem, ht]; decide), if_neg (by rw [h.len]; omega)]
    have e : (entT j f).parts.toNat = 1 + j % 4 := by
      show (1 + (j : Int) % 4).toNat = _
      omega
    rw [e]
    rfl
  · show (insT _ M.top).length = _
    rw [ins_len, h.len]
    simp
  · show hasT (insT _ M.top) n = _
    rw [has_ins, h.mem, any_snoc]
  · rcases ins_mem.1 ht2 with rfl | ht2
    · exact ⟨j, hj, rfl⟩
    · exact h.each t ht2
/-- a topic that stands, found by its name -/
theorem find_mem {T : TopM} (h : T.Pairwise (fun a b => bytesBefore (namL a.1) (namL b.1) = true)) {t : ByteArray × List PartM} (ht : t ∈ T) : findT T t.1 = some t.2 := by
  unfold findT
  induction T with
  | nil => exact absurd ht List.not_mem_nil
  | cons a r ih =>
    rw [List.find?_cons]
    by_cases he : a.1 = t.1
    · rw [decide_eq_true he]
      rcases List.mem_cons.1 ht with rfl | ht
      · rfl
      · have := (List.pairwise_cons.1 h).1 t ht
        rw [he, WideAt.bytes_irrefl] at this
        cases this
    · rw [decide_eq_false he]
      rcases List.mem_cons.1 ht with rfl | ht
      · exact absurd rfl he
      · exact ih (List.pairwise_cons.1 h).2 ht
theorem top_part {T : TopM} (h : T.Pairwise (fun a b => bytesBefore (namL a.1) (namL b.1) = true)) {n : ByteArray} {m : Nat} {P : PartM} (ht : (n, List.replicate m P) ∈ T) {k : Nat} (hk : k < m) : partT T n (k : Int) = some P := by
  unfold partT
  rw [if_pos (by omega), find_mem h ht]
  show (List.replicate m P)[(k : Int).toNat]? = some P
  rw [Int.toNat_natCast, List.getElem?_replicate, if_pos hk]
end Go.Proofs.YtjodiieeocaipaaGreatDoor

/-
  stavelaw21: StateTopics: the State and the list of names in memory.
-/
namespace Go.Proofs.YtjodiieeocaipaaGreatDoor
open Go.RowKit Go.Maps

/-- a kept block turned, others came -/
theorem Run.turnedX {w0 w w' : World} {s N : Nat} {M : StM} {K Q : Nat → Prop} (h : Run w0 w s N M K) (hT : Turned Q w w') (hQ : ∀ i, i < w.heap.size → Q i → K i ∧ w0.heap.size ≤ i) : Run w0 w' s N M (fun i => K i ∨ (w.heap.size ≤ i ∧ i < w'.heap.size)) := by
  have h' := h.turned hT hQ
  obtain ⟨o, S, h1, h2, h3, h4, h5⟩ := h
  refine ⟨o, S, h1.turned hT (fun i hi ho hq => ho (h4 i (hQ i hi hq).1).1), h2, h3, fun i hi => ?_, h'.below⟩
  rcases hi with hi | hi
  · exact ⟨(h4 i hi).1, Nat.lt_of_lt_of_le (h4 i hi).2 hT.size⟩
  · refine ⟨?_, hi.2⟩
    cases e : o i with
    | none => rfl
    | some x =>
      have := h1.lim i (by rw [e]; simp)
      omega
/-- the State and the names, where n topics may have been tried -/
structure TpI (w wr : World) (s : Nat) (f : Int) (k : Nat) (A : Option Addr) (c : Nat) (L : List ByteArray) : Prop where
  run : ∃ (N : Nat) (M : StM), N ≤ k ∧ Run w wr s N M (fun i => (Value.slice A L.length c).ownBlock = some i) ∧ TopI M L f
  own : OwnT wr w.heap.size A L.length c L
/-- .. where the last topic's name is not yet among them -/
structure TpN (w wr : World) (s : Nat) (f : Int) (k : Nat) (A : Option Addr) (c : Nat) (L : List ByteArray) (x : ByteArray) : Prop where
  run : ∃ (N : Nat) (M : StM), N ≤ k ∧ Run w wr s N M (fun i => (Value.slice A L.length c).ownBlock = some i) ∧ TopI M (L ++ [x]) f
  own : OwnT wr w.heap.size A L.length c L
theorem OwnT.ext {w w' : World} {B : Nat} {A : Option Addr} {n c : Nat} {l : List ByteArray} (h : OwnT w B A n c l) (hb : Below w.heap.size w w') : OwnT w' B A n c l := World.ownsRow.kept h (grown_of_below hb) (Classical.em _)
theorem TpI.below {w wr : World} {s : Nat} {f : Int} {k : Nat} {A : Option Addr} {c : Nat} {L : List ByteArray} (h : TpI w wr s f k A c L) : Below w.heap.size w wr := by
  obtain ⟨N, M, _, h, _⟩ := h.run
  exact h.below
theorem TpI.ext {w wr w' : World} {s : Nat} {f : Int} {k : Nat} {A : Option Addr} {c : Nat} {L : List ByteArray} (h : TpI w wr s f k A c L) (hb : Below wr.heap.size wr w') : TpI w w' s f k A c L := by
  obtain ⟨⟨N, M, h1, h2, h3⟩, h4⟩ := h
  exact ⟨⟨N, M, h1, (h2.ext hb).less (fun _ h => .inl h), h3⟩, h4.ext hb⟩
theorem TpN.ext {w wr w' : World} {s : Nat} {f : Int} {k : Nat} {A : Option Addr} {c : Nat} {L : List ByteArray} {x : ByteArray} (h : TpN w wr s f k A c L x) (hb : Below wr.heap.size wr w') : TpN w w' s f k A c L x := by
  obtain ⟨⟨N, M, h1, h2, h3⟩, h4⟩ := h
  exact ⟨⟨N, M, h1, (h2.ext hb).less (fun _ h => .inl h), h3⟩, h4.ext hb⟩
theorem TpI.few {w wr : World} {s : Nat} {f : Int} {k : Nat} {A : Option Addr} {c : Nat} {L : List ByteArray} (h : TpI w wr s f k A c L) : L.length ≤ 8 := by
  obtain ⟨N, M, h1, h2, h3⟩ := h.run
  rw [← h3.len]
  exact run_few h2
theorem TpI.start {w wr : World} {s : Nat} {f : Int} (h : Run w wr s 0 newSt (fun _ => False)) : TpI w wr s f 0 none 0 [] :=
  ⟨⟨0, newSt, Nat.le_refl _, h.less (fun _ h => by cases h), topI_start f⟩, World.ownsRow_nil _ _ _ _⟩
section
variable {w wr : World} {s : Nat} {f : Int} {k : Nat} {A : Option Addr} {c : Nat} {L : List ByteArray}
theorem tp_own {w' : World} (h : OwnT wr w.heap.size A L.length c L) (ht : Turned (fun i => w.heap.size ≤ i ∧ ¬ (Value.slice A L.length c).ownBlock = some i) wr w') : OwnT w' w.heap.size A L.length c L :=
  own_turned h ht (fun _ hg hq => hq.2 hg)
def tpArgs (s j : Nat) (f : Int) (k : Nat) : Array Value := #[.pointer (some ⟨s, 0, none⟩), .agg #[.int .i64 1, .string (wd j), .string ⟨#[]⟩, .int .i64 0, .int .i64 (1 + (j : Int) % 4), .int .i64 f, .int .i64 0, .int .i64 0, .int .i64 0, .int .i64 0, .slice none 0 0], .int .i64 0, .int .i64 k]
theorem TpI.there (h : TpI w wr s f k A c L) (hk : k ≤ 24) {j : Nat} (hj : j < 12) (hf : 0 ≤ f ∧ f ≤ 9223372036854775807) (ht : anyN L (wd j) = true) :
    Calls Tryz.prog 11 (tpArgs s j f k) wr fun er w' => ∃ v, er = .returned (.tuple #[.agg #[.int .i64 0, .int .i64 0, .bool false], v]) ∧ ErrV2 v 9 ∧ TpI w w' s f (k + 1) A c L := by
  obtain ⟨⟨N, M, h1, h2, h3⟩, h4⟩ := h
  refine (run_step h2 (by omega) (entT j f) none 0 0 (RdT.nil _) 0 k (top_there h3 hj hf (by omega) ht)).mono ?_
  rintro er w' ⟨v, rfl, hv, hr, ht⟩
  exact ⟨v, rfl, hv, ⟨N + 1, M, by omega, hr, h3⟩, tp_own h4 ht⟩
theorem TpI.full (h : TpI w wr s f k A c L) (hk : k ≤ 24) {j : Nat} (hj : j < 12) (hf : 0 ≤ f ∧ f ≤ 9223372036854775807) (ht : anyN L (wd j) = false) (h8 : 8 ≤ L.length) :
    Calls Tryz.prog 11 (tpArgs s j f k) wr fun er w' => ∃ v, er = .returned (.tuple #[.agg #[.int .i64 0, .int .i64 0, .bool false], v]) ∧ ErrV2 v 8 ∧ TpI w w' s f (k + 1) A c L := by
  obtain ⟨⟨N, M, h1, h2, h3⟩, h4⟩ := h
  refine (run_step h2 (by omega) (entT j f) none 0 0 (RdT.nil _) 0 k (top_full h3 hj hf (by omega) ht h8)).mono ?_
  rintro er w' ⟨v, rfl, hv, hr, ht⟩
  exact ⟨v, rfl, hv, ⟨N + 1, M, by omega, hr, h3⟩, tp_own h4 ht⟩
theorem TpI.fresh (h : TpI w wr s f k A c L) (hk : k ≤ 24) {j : Nat} (hj : j < 12) (hf : 0 ≤ f ∧ f ≤ 9223372036854775807) (ht : anyN L (wd j) = false) (h8 : L.length < 8) :
    Calls Tryz.prog 11 (tpArgs s j f k) wr fun er w' => er = .returned (.tuple #[.agg #[.int .i64 0, .int .i64 0, .bool false], .nilIface]) ∧ TpN w w' s f (k + 1) A c L (wd j) := by
  obtain ⟨⟨N, M, h1, h2, h3⟩, h4⟩ := h
  obtain ⟨M', hM, hI⟩ := top_new h3 hj hf (i := k) (by omega) ht h8
  refine (run_step h2 (by omega) (entT j f) none 0 0 (RdT.nil _) 0 k hM).mono ?_
  rintro er w' ⟨v, rfl, hv, hr, ht⟩
  obtain rfl := nil_of hv
  exact ⟨rfl, ⟨N + 1, M', by omega, hr, hI⟩, tp_own h4 ht⟩
end
/-- the name goes among the names -/
theorem TpN.put {w W w6 : World} {s : Nat} {f : Int} {k : Nat} {A A6 : Option Addr} {c c6 : Nat} {L : List ByteArray} {x : ByteArray} (h : TpN w W s f k A c L x)
    (ho : w6.ownsRow w.heap.size 9 1 (.slice A6 (L.length + 1) c6) (L.length + 1) (L.map Value.string ++ [.string x])) (hg : W.grownBy w6 (Value.slice A L.length c).ownBlock)
    (hx : (Value.slice A6 (L.length + 1) c6).ownBlock = (Value.slice A L.length c).ownBlock ∨ (Value.slice A6 (L.length + 1) c6).ownBlock = some W.heap.size) : TpI w w6 s f k A6 c6 (L ++ [x]) := by
  obtain ⟨⟨N, M, h1, h2, h3⟩, h4⟩ := h
  have hl : (L ++ [x]).length = L.length + 1 := by simp
  have hT : Turned (fun i => (Value.slice A L.length c).ownBlock = some i) W w6 := Turned.of_grown hg (fun i e => e)
  have hr := h2.turnedX hT (fun i _ hq => ⟨hq, (World.ownsRow.lt h4 i hq).1⟩)
  refine ⟨⟨N, M, h1, hr.less (fun i hi => ?_), h3⟩, ?_⟩
  · rw [hl] at hi
    rcases hx with e | e
    · rw [e] at hi
      exact .inl hi
    · have hlt := (World.ownsRow.lt ho i hi).2
      rw [e] at hi
      obtain rfl := Option.some.inj hi
      exact .inr ⟨Nat.le_refl _, hlt⟩
  · unfold OwnT
    rw [hl, List.map_append]
    exact ho
end Go.Proofs.YtjodiieeocaipaaGreatDoor
